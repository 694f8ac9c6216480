/- Functions of the program as Lean functions, and the contracts by which the Go code comes to their answers, for every argument that can be read. Written by a program of this session over the print of the kit. -/
import Derived.Test.YtlelcmkbcejjkaaDoorLx0
import Derived.Test.YtlelcmkbcejjkaaDoorLx21
import Derived.Test.YtlelcmkbcejjkaaDoorLx26
import Derived.Test.YtlelcmkbcejjkaaDoorLabH
namespace Go.Proofs.YtlelcmkbcejjkaaDoor.L
open Go.RowKit Go.Proofs.YtlelcmkbcejjkaaDoorW.PrintWords Go.Proofs.YtlelcmkbcejjkaaDoorW.PrintLast Go.Proofs.YtlelcmkbcejjkaaDoorW.PrintMore
attribute [local go_sem high] Go.Proofs.YtlelcmkbcejjkaaDoor.Less.str_leq Go.Proofs.YtlelcmkbcejjkaaDoor.Less.str_gtr Go.Proofs.YtlelcmkbcejjkaaDoor.Less.str_geq
attribute [local go_sem] max2_int min2_int max_two min_two max_three min_three max_four min_four   -- for this text's walks alone
set_option linter.unusedVariables false
set_option linter.unusedSimpArgs false

/-! ### store_Right: function 38 -/
def store_Right.l0 : Nat → List (S59) → List (S59) → Int → Int → Option (Bool)
  | 0, _, _, _, _ => none
  | k + 1, x0, x5, x6, x7 => if x7 < x6 then (if 0 ≤ x7 then (if x7 < (x5.length : Int) then (if (((rd_T59 x5 x7).f0).length : Int) = 0 then (some false) else ((label_Right.f k ((rd_T59 x5 x7).f0)).bind fun t119 => (if t119 = true then ((store_points.f k ((rd_T59 x5 x7).f1)).bind fun t120 => (if t120 = true then (if x7 > 0 then (if 0 ≤ (wrap64 (x7 - 1)) then (if (wrap64 (x7 - 1)) < (x0.length : Int) then ((label_Cmp.f ((rd_T59 x0 (wrap64 (x7 - 1))).f0) ((rd_T59 x5 x7).f0)).bind fun t122 => (if t122 ≥ 0 then (some false) else (store_Right.l0 k x0 x5 x6 (wrap64 (x7 + 1))))) else (none)) else (none)) else (store_Right.l0 k x0 x5 x6 (wrap64 (x7 + 1)))) else (some false))) else (some false)))) else (none)) else (none)) else (some true)
def store_Right.f (k : Nat) (l0 : List (S59)) : Option (Bool) := store_Right.l0 k l0 l0 (l0.length : Int) 0
theorem store_Right.mono_l : ∀ k, (∀ y0 y1 y2 y3, LeO (store_Right.l0 k y0 y1 y2 y3) (store_Right.l0 (k + 1) y0 y1 y2 y3))
  | 0 => fun _ _ _ _ r h => by simp [store_Right.l0] at h
  | k + 1 => by
    have ih0 := store_Right.mono_l k
    · intro y0 y1 y2 y3
      unfold store_Right.l0
      repeat' first
      | (with_reducible exact ih0 _ _ _ _)
      | (with_reducible exact label_Right.mono _ _)
      | (with_reducible exact store_points.mono _ _)
      | (with_reducible exact LeO.refl _)
      | (with_reducible exact LeO.none _)
      | (with_reducible refine LeO.ite ?_ ?_)
      | (with_reducible refine LeO.bind ?_ (fun _ => ?_))
      | exact ih0 _ _ _ _
      | exact label_Right.mono _ _
      | exact store_points.mono _ _
      | exact LeO.none _
      | refine LeO.ite ?_ ?_
      | refine LeO.bind ?_ (fun _ => ?_)
theorem store_Right.mono : ∀ a0 k, LeO (store_Right.f k a0) (store_Right.f (k + 1) a0) := by
  intro a0 k
  have ih0 := store_Right.mono_l k
  unfold store_Right.f
  repeat' first
      | (with_reducible exact ih0 _ _ _ _)
      | (with_reducible exact label_Right.mono _ _)
      | (with_reducible exact store_points.mono _ _)
      | (with_reducible exact LeO.refl _)
      | (with_reducible exact LeO.none _)
      | (with_reducible refine LeO.ite ?_ ?_)
      | (with_reducible refine LeO.bind ?_ (fun _ => ?_))
      | exact ih0 _ _ _ _
      | exact label_Right.mono _ _
      | exact store_points.mono _ _
      | exact LeO.none _
      | refine LeO.ite ?_ ?_
      | refine LeO.bind ?_ (fun _ => ?_)
def store_Right.T4 : Bool × List (List Nat × List Nat) := (true, [([], []), ([0], [0]), ([1], [1]), ([2], [2]), ([3], [3]), ([4], [4]), ([5, 4], [4, 5]), ([6, 4, 4], [4, 6]), ([7, 4], [4, 7]), ([4, 8], [4, 8]), ([9, 7], [9]), ([10], [10]), ([11, 10], [10, 11]), ([12, 10, 10], [10, 12]), ([13, 10], [10, 13]), ([10, 14], [10, 14]), ([15, 13], [15]), ([16], [16]), ([17, 16], [16, 17]), ([18, 16, 16], [16, 18]), ([19], [19]), ([19], [19]), ([21, 19], [19, 21]), ([20, 22, 19], [19, 20, 22]), ([23, 19], [19, 23]), ([24, 19], [19, 24]), ([19], [19]), ([26, 19], [19, 26]), ([25, 27, 19, 19], [19, 25, 27]), ([28, 19], [19, 28]), ([19, 29, 16], [16, 19, 29]), ([16, 30], [16, 30])])
def store_Right.B4 : List Nat := [0, 1, 3, 7, 15, 31, 63, 127, 255, 511, 1023, 2047, 4095, 8191, 16383, 32767, 65535, 131071, 262143, 524287, 1048575, 1048575, 3145727, 8388607, 16777215, 33554431, 1048575, 68157439, 268435455, 536870911, 1073741823, 2147483647]
theorem store_Right.tab4 : rtab .any (opsOf Tryd.f38 4) = store_Right.T4 := by kernel_rfl
theorem store_Right.bits4 : waitsOk store_Right.T4.2 store_Right.B4 = true := by kernel_rfl
set_option maxHeartbeats 8000000 in
set_option maxRecDepth 100000 in
theorem store_Right.calls (k : Nat) (A0 : Option Addr) (c0 : Nat) (l0 : List (S59)) (r : Bool) (w : World) (hr0 : Kd.C k59 w A0 l0.length l0) (hc0 : l0.length ≤ c0) (hG : GL w) (h : store_Right.f k l0 = some r) :
    Calls Tryd.prog 38 #[.slice A0 l0.length c0] w fun e w' => e = .returned (.bool r) ∧ Below w.heap.size w w' := by
  have HG := Aside0.mk hG
  clear hG
  have hu59 := Tryd.underlying59
  have HR0 := Aside0.mk hr0
  have HC0 := Aside0.mk hc0
  clear hr0 hc0
  have HB := Aside0.mk (Below.refl w.heap.size w)
  have H : (store_Right.l0 k l0 l0 (l0.length : Int) 0) = some r := h
  clear h
  have H' := Aside0.mk H
  clear H
  go_enter Tryd.func38, Tryd.ntmps38
  go_wp2
  go_loopg [7] k (fun kq v7 w' => ∃ (x7_1 : Int), v7 = .int .i64 x7_1 ∧ Aside0 (store_Right.l0 kq l0 l0 (l0.length : Int) x7_1 = some r) ∧ Aside0 (kq ≤ k) ∧ Aside0 (Below w.heap.size w w'))
  case atStart => exact ⟨(0), (by first | rfl | (simp; done) | (simp [*]; done)), H', ⟨Nat.le_refl _⟩, ⟨by repeat (first | (with_reducible first | exact HB.out | apply below_alloc | apply pw_below_drewN | apply below_drew1) | exact HB.out)⟩⟩
  case round =>
    clear H'
    obtain ⟨x7_1, rfl, HA, HK1, HB⟩ := hrel
    cases gk with
    | zero => exact absurd HA.out (by simp [store_Right.l0])
    | succ k1 =>
      have H := HA.out
      clear HA
      simp only [store_Right.l0] at H
      by_cases c2 : x7_1 < (l0.length : Int)
      · rw [if_pos c2] at H
        have c2b0 : decide (x7_1 < (l0.length : Int)) = true := decide_eq_true c2
        clear c2
        by_cases c3 : 0 ≤ x7_1
        · rw [if_pos c3] at H
          have c3b0 : decide (0 ≤ x7_1) = true := decide_eq_true c3
          clear c3
          by_cases c4 : x7_1 < (l0.length : Int)
          · rw [if_pos c4] at H
            have c4b0 : decide (x7_1 < (l0.length : Int)) = true := decide_eq_true c4
            clear c4
            by_cases c5 : (((rd_T59 l0 x7_1).f0).length : Int) = 0
            · rw [if_pos c5] at H
              have c5b0 : ((((rd_T59 l0 x7_1).f0).length : Int) == 0) = true := beq_iff_eq.mpr c5
              have c5b1 : ((((rd_T59 l0 x7_1).f0).length : Int) != 0) = false := bne_eq_false_iff_eq.mpr c5
              clear c5
              obtain rfl := Option.some.inj H
              have p117 : 0 ≤ (x7_1 : Int) := of_decide_eq_true (by first | (with_reducible assumption) | assumption)
              have q117 : x7_1 < (l0.length : Int) := of_decide_eq_true (by first | (with_reducible assumption) | assumption)
              obtain ⟨ad117, A117_0, c117_0, A117_1, c117_1, e117, hx117_0, hx117_1, hl117_0, hi117_0, hl117_1, hi117_1⟩ := at_T59 HR0.out x7_1 p117 q117
              cases e117
              replace hx117_0 := (HB.out.cell (World.block_lt_of_cell? w _ hx117_0)).trans hx117_0
              replace hx117_1 := (HB.out.cell (World.block_lt_of_cell? w _ hx117_1)).trans hx117_1
              have HR117_0 := Aside0.mk hi117_0
              have HC117_0 := Aside0.mk hl117_0
              clear hi117_0 hl117_0
              have HR117_1 := Aside0.mk hi117_1
              have HC117_1 := Aside0.mk hl117_1
              clear hi117_1 hl117_1
              replace p117 := eq_true p117
              replace q117 := eq_true q117
              try go_wp2_with (first | ((with_reducible refine gate_dst (N := 4) rfl ?_); refine box_event ?hg (N := 4) ?hd (cs := #[.slice none 0 0, .slice none 0 0]) (t := 59) ?hr ?_; (case hd => rfl); (case hg => rfl); (case hr => first | (go_simp; done) | (go_simp; rfl)); intro gb118 hg w6 hbox hb; have n0_ := Aside0.mk (below_step (by repeat (first | (with_reducible first | exact HB.out | apply below_alloc | apply pw_below_drewN | apply below_drew1) | exact HB.out)) hb); have n1_ := Aside0.mk (hbox); have n2_ := Aside0.mk ((by rw [hg]; exact (below_size (by repeat (first | (with_reducible first | exact HB.out | apply below_alloc | apply pw_below_drewN | apply below_drew1) | exact HB.out))) : w.heap.size ≤ gb118)); have n3_ := Aside0.mk ((by rw [hg]; exact (below_size (by repeat (first | (with_reducible first | exact HB.out | apply below_alloc | apply pw_below_drewN | apply below_drew1) | exact HB.out))) : w.heap.size ≤ gb118)); clear HB; have HB := n0_; have BK118 := n1_; have GW118 := n2_; have GE118 := n3_; clear n0_ n1_ n2_ n3_; clear hb hbox hg; have hcz7_0 : w6.cell? ⟨gb118, 0, none⟩ = some (.slice none 0 0) := (blk_cell BK118.out 0).trans rfl; have hcz7_1 : w6.cell? ⟨gb118, 1, none⟩ = some (.slice none 0 0) := (blk_cell BK118.out 1).trans rfl; have hfz7_0 := blk_frozen BK118.out 0; have hfz7_1 := blk_frozen BK118.out 1))
              have n0_ : Aside0 (((w6.setCell ⟨gb118, 0, none⟩ (.slice A117_0 ((rd_T59 l0 x7_1).f0).length c117_0)).setCell ⟨gb118, 1, none⟩ (.slice A117_1 ((rd_T59 l0 x7_1).f1).length c117_1)).heap[gb118]? = some (.cells #[.slice A117_0 ((rd_T59 l0 x7_1).f0).length c117_0, .slice A117_1 ((rd_T59 l0 x7_1).f1).length c117_1] 59 (0, 0))) := ⟨by (with_reducible repeat (first | refine blk_drewN ?_ _ | refine blk_drew ?_ | refine blk_alloc ?_ _)); refine blk_put (cs := #[.slice A117_0 ((rd_T59 l0 x7_1).f0).length c117_0, .slice none 0 0]) ?_ 1 _ rfl; (with_reducible repeat (first | refine blk_drewN ?_ _ | refine blk_drew ?_ | refine blk_alloc ?_ _)); refine blk_put (cs := #[.slice none 0 0, .slice none 0 0]) ?_ 0 _ rfl; (with_reducible repeat (first | refine blk_drewN ?_ _ | refine blk_drew ?_ | refine blk_alloc ?_ _)); exact BK118.out⟩
              have n1_ : Aside0 (Below w.heap.size w ((w6.setCell ⟨gb118, 0, none⟩ (.slice A117_0 ((rd_T59 l0 x7_1).f0).length c117_0)).setCell ⟨gb118, 1, none⟩ (.slice A117_1 ((rd_T59 l0 x7_1).f1).length c117_1))) := ⟨by repeat (first | (with_reducible first | exact HB.out | apply below_alloc | apply pw_below_drewN | apply below_drew1 | refine below_set ?_ GE118.out) | exact HB.out)⟩
              (try clear BK118)
              (try clear HB)
              generalize ((w6.setCell ⟨gb118, 0, none⟩ (.slice A117_0 ((rd_T59 l0 x7_1).f0).length c117_0)).setCell ⟨gb118, 1, none⟩ (.slice A117_1 ((rd_T59 l0 x7_1).f1).length c117_1)) = w8 at n0_ n1_ ⊢
              have BK118 := n0_
              have HB := n1_
              clear n0_ n1_
              have n0_ := Aside0.mk (blk_drew BK118.out)
              have n1_ := Aside0.mk (below_drew1 HB.out)
              clear BK118
              clear HB
              have BK118 := n0_
              have HB := n1_
              clear n0_ n1_
              refine start_ (n := 32) (S := fun w' => w'.cell? ⟨gb118, 0, none⟩ = some (.slice A117_0 ((rd_T59 l0 x7_1).f0).length c117_0) ∧ w'.cell? ⟨gb118, 1, none⟩ = some (.slice A117_1 ((rd_T59 l0 x7_1).f1).length c117_1)) (ds := []) #[false, false, false, false, false, false, false, false, false, false, false, false, false, false, false, false, false, false, false, false, false, false, false, false, false, false, false, false, false, false, false, false] (by kernel_rfl) rfl rfl ⟨(blk_cell BK118.out 0).trans rfl, (blk_cell BK118.out 1).trans rfl⟩ (fun hHeld => ?_); refine with_tabW store_Right.tab4 store_Right.bits4 (fun HT_ HW_ => ?_)
              generalize w8.drew = w9 at BK118 HB hHeld ⊢
              refine pure_ (i := 0) (N := some 12) (v := ?_) (a' := ?_) (Less.bv 32 1) rfl rfl (any_of HT_.out (by kernel_rfl)) (fun _ _ _ h => h) (Or.inl ⟨by rfl, ?_⟩) ?_ ?_
              rotate_left
              · intro w'
                go_simp
                with_reducible rfl
              rotate_left
              · simp only [Act.put, Less.p1, Less.p2, Less.p3, i64_w, i32_w]
                rfl
              refine take_ (i := 1) (N := some 13) (v := ?_) (a' := ?_) (Less.bv 32 3) rfl rfl (take_ofW HT_.out HW_.out (by kernel_rfl)) (fun _ _ _ h => h) (Or.inl ⟨by rfl, ?_⟩) hHeld ?_ ?_
              rotate_left
              · rintro w' ⟨s0, s1⟩
                go_simp
                with_reducible rfl
              rotate_left
              · simp only [Act.put, Less.p1, Less.p2, Less.p3, i64_w, i32_w]
                rfl
              refine pure_ (i := 2) (N := some 14) (v := ?_) (a' := ?_) (Less.bv 32 7) rfl rfl (any_of HT_.out (by kernel_rfl)) (fun _ _ _ h => h) (Or.inl ⟨by rfl, ?_⟩) ?_ ?_
              rotate_left
              · intro w'
                go_simp
                with_reducible rfl
              rotate_left
              · simp only [Act.put, Less.p1, Less.p2, Less.p3, i64_w, i32_w]
                rfl
              refine pure_ (i := 3) (N := some 15) (v := ?_) (a' := ?_) (Less.bv 32 15) rfl rfl (any_of HT_.out (by kernel_rfl)) (fun _ _ _ h => h) (Or.inl ⟨by rfl, ?_⟩) ?_ ?_
              rotate_left
              · intro w'
                go_simp
                with_reducible rfl
              rotate_left
              · simp only [Act.put, Less.p1, Less.p2, Less.p3, i64_w, i32_w]
                rfl
              refine pure_ (i := 4) (N := some 16) (v := ?_) (a' := ?_) (Less.bv 32 31) rfl rfl (any_of HT_.out (by kernel_rfl)) (fun _ _ _ h => h) (Or.inl ⟨by rfl, ?_⟩) ?_ ?_
              rotate_left
              · intro w'
                go_simp
                with_reducible rfl
              rotate_left
              · simp only [Act.put, Less.p1, Less.p2, Less.p3, i64_w, i32_w]
                rfl
              refine pure_ (i := 5) (N := some 17) (v := undef) (a' := ?_) (Less.bv 32 63) rfl rfl (any_of HT_.out (by kernel_rfl)) (fun _ _ _ h => h) (Or.inr ⟨by rfl, rfl⟩) ?_ ?_
              rotate_left
              · simp only [Act.put, Less.p1, Less.p2, Less.p3, i64_w, i32_w]
                rfl
              refine pure_ (i := 6) (N := some 18) (v := undef) (a' := ?_) (Less.bv 32 127) rfl rfl (any_of HT_.out (by kernel_rfl)) (fun _ _ _ h => h) (Or.inr ⟨by rfl, rfl⟩) ?_ ?_
              rotate_left
              · simp only [Act.put, Less.p1, Less.p2, Less.p3, i64_w, i32_w]
                rfl
              refine pure_ (i := 7) (N := some 19) (v := undef) (a' := ?_) (Less.bv 32 255) rfl rfl (any_of HT_.out (by kernel_rfl)) (fun _ _ _ h => h) (Or.inr ⟨by rfl, rfl⟩) ?_ ?_
              rotate_left
              · simp only [Act.put, Less.p1, Less.p2, Less.p3, i64_w, i32_w]
                rfl
              refine pure_ (i := 8) (N := some 20) (v := undef) (a' := ?_) (Less.bv 32 511) rfl rfl (any_of HT_.out (by kernel_rfl)) (fun _ _ _ h => h) (Or.inr ⟨by rfl, rfl⟩) ?_ ?_
              rotate_left
              · simp only [Act.put, Less.p1, Less.p2, Less.p3, i64_w, i32_w]
                rfl
              refine pure_ (i := 9) (N := some 21) (v := ?_) (a' := ?_) (Less.bv 32 1023) rfl rfl (any_of HT_.out (by kernel_rfl)) (fun _ _ _ h => h) (Or.inl ⟨by rfl, ?_⟩) ?_ ?_
              rotate_left
              · intro w'
                go_simp
                with_reducible rfl
              rotate_left
              · simp only [Act.put, Less.p1, Less.p2, Less.p3, i64_w, i32_w]
                rfl
              refine pure_ (i := 10) (N := some 22) (v := ?_) (a' := ?_) (Less.bv 32 2047) rfl rfl (any_of HT_.out (by kernel_rfl)) (fun _ _ _ h => h) (Or.inl ⟨by rfl, ?_⟩) ?_ ?_
              rotate_left
              · intro w'
                go_simp
                with_reducible rfl
              rotate_left
              · simp only [Act.put, Less.p1, Less.p2, Less.p3, i64_w, i32_w]
                rfl
              refine pure_ (i := 11) (N := some 23) (v := undef) (a' := ?_) (Less.bv 32 4095) rfl rfl (any_of HT_.out (by kernel_rfl)) (fun _ _ _ h => h) (Or.inr ⟨by rfl, rfl⟩) ?_ ?_
              rotate_left
              · simp only [Act.put, Less.p1, Less.p2, Less.p3, i64_w, i32_w]
                rfl
              refine pure_ (i := 12) (N := some 24) (v := undef) (a' := ?_) (Less.bv 32 8191) rfl rfl (any_of HT_.out (by kernel_rfl)) (fun _ _ _ h => h) (Or.inr ⟨by rfl, rfl⟩) ?_ ?_
              rotate_left
              · simp only [Act.put, Less.p1, Less.p2, Less.p3, i64_w, i32_w]
                rfl
              refine pure_ (i := 13) (N := some 25) (v := undef) (a' := ?_) (Less.bv 32 16383) rfl rfl (any_of HT_.out (by kernel_rfl)) (fun _ _ _ h => h) (Or.inr ⟨by rfl, rfl⟩) ?_ ?_
              rotate_left
              · simp only [Act.put, Less.p1, Less.p2, Less.p3, i64_w, i32_w]
                rfl
              refine pure_ (i := 14) (N := some 26) (v := undef) (a' := ?_) (Less.bv 32 32767) rfl rfl (any_of HT_.out (by kernel_rfl)) (fun _ _ _ h => h) (Or.inr ⟨by rfl, rfl⟩) ?_ ?_
              rotate_left
              · simp only [Act.put, Less.p1, Less.p2, Less.p3, i64_w, i32_w]
                rfl
              refine pure_ (i := 15) (N := some 27) (v := ?_) (a' := ?_) (Less.bv 32 65535) rfl rfl (any_of HT_.out (by kernel_rfl)) (fun _ _ _ h => h) (Or.inl ⟨by rfl, ?_⟩) ?_ ?_
              rotate_left
              · intro w'
                go_simp
                with_reducible rfl
              rotate_left
              · simp only [Act.put, Less.p1, Less.p2, Less.p3, i64_w, i32_w]
                rfl
              refine pure_ (i := 16) (N := some 28) (v := ?_) (a' := ?_) (Less.bv 32 131071) rfl rfl (any_of HT_.out (by kernel_rfl)) (fun _ _ _ h => h) (Or.inl ⟨by rfl, ?_⟩) ?_ ?_
              rotate_left
              · intro w'
                go_simp
                with_reducible rfl
              rotate_left
              · simp only [Act.put, Less.p1, Less.p2, Less.p3, i64_w, i32_w]
                rfl
              refine pure_ (i := 17) (N := some 29) (v := undef) (a' := ?_) (Less.bv 32 262143) rfl rfl (any_of HT_.out (by kernel_rfl)) (fun _ _ _ h => h) (Or.inr ⟨by rfl, rfl⟩) ?_ ?_
              rotate_left
              · simp only [Act.put, Less.p1, Less.p2, Less.p3, i64_w, i32_w]
                rfl
              refine pure_ (i := 18) (N := some 30) (v := undef) (a' := ?_) (Less.bv 32 524287) rfl rfl (any_of HT_.out (by kernel_rfl)) (fun _ _ _ h => h) (Or.inr ⟨by rfl, rfl⟩) ?_ ?_
              rotate_left
              · simp only [Act.put, Less.p1, Less.p2, Less.p3, i64_w, i32_w]
                rfl
              refine pure_ (i := 19) (N := some 31) (v := undef) (a' := ?_) (Less.bv 32 1048575) rfl rfl (any_of HT_.out (by kernel_rfl)) (fun _ _ _ h => h) (Or.inr ⟨by rfl, rfl⟩) ?_ ?_
              rotate_left
              · simp only [Act.put, Less.p1, Less.p2, Less.p3, i64_w, i32_w]
                rfl
              refine pure_ (i := 20) (N := some 32) (v := undef) (a' := ?_) (Less.bv 32 2097151) rfl rfl (any_of HT_.out (by kernel_rfl)) (fun _ _ _ h => h) (Or.inr ⟨by rfl, rfl⟩) ?_ ?_
              rotate_left
              · simp only [Act.put, Less.p1, Less.p2, Less.p3, i64_w, i32_w]
                rfl
              refine pure_ (i := 21) (N := some 33) (v := undef) (a' := ?_) (Less.bv 32 4194303) rfl rfl (any_of HT_.out (by kernel_rfl)) (fun _ _ _ h => h) (Or.inr ⟨by rfl, rfl⟩) ?_ ?_
              rotate_left
              · simp only [Act.put, Less.p1, Less.p2, Less.p3, i64_w, i32_w]
                rfl
              refine pure_ (i := 22) (N := some 34) (v := undef) (a' := ?_) (Less.bv 32 8388607) rfl rfl (any_of HT_.out (by kernel_rfl)) (fun _ _ _ h => h) (Or.inr ⟨by rfl, rfl⟩) ?_ ?_
              rotate_left
              · simp only [Act.put, Less.p1, Less.p2, Less.p3, i64_w, i32_w]
                rfl
              refine pure_ (i := 23) (N := some 35) (v := undef) (a' := ?_) (Less.bv 32 16777215) rfl rfl (any_of HT_.out (by kernel_rfl)) (fun _ _ _ h => h) (Or.inr ⟨by rfl, rfl⟩) ?_ ?_
              rotate_left
              · simp only [Act.put, Less.p1, Less.p2, Less.p3, i64_w, i32_w]
                rfl
              refine pure_ (i := 24) (N := some 36) (v := undef) (a' := ?_) (Less.bv 32 33554431) rfl rfl (any_of HT_.out (by kernel_rfl)) (fun _ _ _ h => h) (Or.inr ⟨by rfl, rfl⟩) ?_ ?_
              rotate_left
              · simp only [Act.put, Less.p1, Less.p2, Less.p3, i64_w, i32_w]
                rfl
              refine pure_ (i := 25) (N := some 37) (v := undef) (a' := ?_) (Less.bv 32 67108863) rfl rfl (any_of HT_.out (by kernel_rfl)) (fun _ _ _ h => h) (Or.inr ⟨by rfl, rfl⟩) ?_ ?_
              rotate_left
              · simp only [Act.put, Less.p1, Less.p2, Less.p3, i64_w, i32_w]
                rfl
              refine pure_ (i := 26) (N := some 38) (v := undef) (a' := ?_) (Less.bv 32 134217727) rfl rfl (any_of HT_.out (by kernel_rfl)) (fun _ _ _ h => h) (Or.inr ⟨by rfl, rfl⟩) ?_ ?_
              rotate_left
              · simp only [Act.put, Less.p1, Less.p2, Less.p3, i64_w, i32_w]
                rfl
              refine pure_ (i := 27) (N := some 39) (v := undef) (a' := ?_) (Less.bv 32 268435455) rfl rfl (any_of HT_.out (by kernel_rfl)) (fun _ _ _ h => h) (Or.inr ⟨by rfl, rfl⟩) ?_ ?_
              rotate_left
              · simp only [Act.put, Less.p1, Less.p2, Less.p3, i64_w, i32_w]
                rfl
              refine pure_ (i := 28) (N := some 40) (v := undef) (a' := ?_) (Less.bv 32 536870911) rfl rfl (any_of HT_.out (by kernel_rfl)) (fun _ _ _ h => h) (Or.inr ⟨by rfl, rfl⟩) ?_ ?_
              rotate_left
              · simp only [Act.put, Less.p1, Less.p2, Less.p3, i64_w, i32_w]
                rfl
              refine pure_ (i := 29) (N := some 41) (v := undef) (a' := ?_) (Less.bv 32 1073741823) rfl rfl (any_of HT_.out (by kernel_rfl)) (fun _ _ _ h => h) (Or.inr ⟨by rfl, rfl⟩) ?_ ?_
              rotate_left
              · simp only [Act.put, Less.p1, Less.p2, Less.p3, i64_w, i32_w]
                rfl
              refine pure_ (i := 30) (N := some 42) (v := undef) (a' := ?_) (Less.bv 32 2147483647) rfl rfl (any_of HT_.out (by kernel_rfl)) (fun _ _ _ h => h) (Or.inr ⟨by rfl, rfl⟩) ?_ ?_
              rotate_left
              · simp only [Act.put, Less.p1, Less.p2, Less.p3, i64_w, i32_w]
                rfl
              refine pure_ (i := 31) (N := some 43) (v := ?_) (a' := ?_) (Less.bv 32 4294967295) rfl rfl (any_of HT_.out (by kernel_rfl)) (fun _ _ _ h => h) (Or.inl ⟨by rfl, ?_⟩) ?_ ?_
              rotate_left
              · intro w'
                go_simp
                with_reducible rfl
              rotate_left
              · simp only [Act.put, Less.p1, Less.p2, Less.p3, i64_w, i32_w]
                rfl
              refine done_ (done_of HT_.out (by kernel_rfl)) ?_
              try go_wp2
              go_ret
              exact ⟨by first | rfl | (simp [errW_none, errW_some] <;> rfl) | (simp [*, errW_none, errW_some] <;> rfl), by repeat (first | (with_reducible first | exact HB.out | apply below_alloc | apply pw_below_drewN | apply below_drew1 | refine below_set ?_ GE118.out) | exact HB.out)⟩
            · rw [if_neg c5] at H
              have c5b0 : ((((rd_T59 l0 x7_1).f0).length : Int) == 0) = false := beq_eq_false_iff_ne.mpr c5
              have c5b1 : ((((rd_T59 l0 x7_1).f0).length : Int) != 0) = true := bne_iff_ne.mpr c5
              have c5b2 : ¬ (((rd_T59 l0 x7_1).f0) = []) := fun h_ => c5 (by rw [h_]; rfl)
              replace H := Option.bind_eq_some_iff.mp H
              obtain ⟨t119, A100, H⟩ := H
              replace H : (if t119 = true then ((store_points.f k1 ((rd_T59 l0 x7_1).f1)).bind fun t120 => (if t120 = true then (if x7_1 > 0 then (if 0 ≤ (wrap64 (x7_1 - 1)) then (if (wrap64 (x7_1 - 1)) < (l0.length : Int) then ((label_Cmp.f ((rd_T59 l0 (wrap64 (x7_1 - 1))).f0) ((rd_T59 l0 x7_1).f0)).bind fun t122 => (if t122 ≥ 0 then (some false) else (store_Right.l0 k1 l0 l0 (l0.length : Int) (wrap64 (x7_1 + 1))))) else (none)) else (none)) else (store_Right.l0 k1 l0 l0 (l0.length : Int) (wrap64 (x7_1 + 1)))) else (some false))) else (some false)) = some r := H
              have A10 := Aside0.mk A100
              clear A100
              by_cases c11 : t119 = true
              · subst c11
                have H1 : ((store_points.f k1 ((rd_T59 l0 x7_1).f1)).bind fun t120 => (if t120 = true then (if x7_1 > 0 then (if 0 ≤ (wrap64 (x7_1 - 1)) then (if (wrap64 (x7_1 - 1)) < (l0.length : Int) then ((label_Cmp.f ((rd_T59 l0 (wrap64 (x7_1 - 1))).f0) ((rd_T59 l0 x7_1).f0)).bind fun t122 => (if t122 ≥ 0 then (some false) else (store_Right.l0 k1 l0 l0 (l0.length : Int) (wrap64 (x7_1 + 1))))) else (none)) else (none)) else (store_Right.l0 k1 l0 l0 (l0.length : Int) (wrap64 (x7_1 + 1)))) else (some false))) = some r := by rw [if_pos rfl] at H; exact H
                clear H
                have H := H1
                clear H1
                replace H := Option.bind_eq_some_iff.mp H
                obtain ⟨t120, A120, H⟩ := H
                replace H : (if t120 = true then (if x7_1 > 0 then (if 0 ≤ (wrap64 (x7_1 - 1)) then (if (wrap64 (x7_1 - 1)) < (l0.length : Int) then ((label_Cmp.f ((rd_T59 l0 (wrap64 (x7_1 - 1))).f0) ((rd_T59 l0 x7_1).f0)).bind fun t122 => (if t122 ≥ 0 then (some false) else (store_Right.l0 k1 l0 l0 (l0.length : Int) (wrap64 (x7_1 + 1))))) else (none)) else (none)) else (store_Right.l0 k1 l0 l0 (l0.length : Int) (wrap64 (x7_1 + 1)))) else (some false)) = some r := H
                have A12 := Aside0.mk A120
                clear A120
                by_cases c13 : t120 = true
                · subst c13
                  have H1 : (if x7_1 > 0 then (if 0 ≤ (wrap64 (x7_1 - 1)) then (if (wrap64 (x7_1 - 1)) < (l0.length : Int) then ((label_Cmp.f ((rd_T59 l0 (wrap64 (x7_1 - 1))).f0) ((rd_T59 l0 x7_1).f0)).bind fun t122 => (if t122 ≥ 0 then (some false) else (store_Right.l0 k1 l0 l0 (l0.length : Int) (wrap64 (x7_1 + 1))))) else (none)) else (none)) else (store_Right.l0 k1 l0 l0 (l0.length : Int) (wrap64 (x7_1 + 1)))) = some r := by rw [if_pos rfl] at H; exact H
                  clear H
                  have H := H1
                  clear H1
                  by_cases c14 : x7_1 > 0
                  · rw [if_pos c14] at H
                    have c14b0 : decide (0 < x7_1) = true := decide_eq_true c14
                    clear c14
                    obtain ⟨ji15, hji15⟩ : ∃ j_ : Int, (wrap64 (x7_1 - 1)) = j_ := ⟨_, rfl⟩
                    replace H : (if 0 ≤ (ji15) then (if (ji15) < (l0.length : Int) then ((label_Cmp.f ((rd_T59 l0 (ji15)).f0) ((rd_T59 l0 x7_1).f0)).bind fun t122 => (if t122 ≥ 0 then (some false) else (store_Right.l0 k1 l0 l0 (l0.length : Int) (wrap64 (x7_1 + 1))))) else (none)) else (none)) = some r := by first | (rw [hji15] at H; exact H) | (simp only [hji15] at H ⊢; exact H)
                    (try rw [hji15] at A10)
                    (try rw [hji15] at A12)
                    have hji15w : (IntKind.i64.wrap (x7_1 - 1)) = ji15 := (i64_w _).trans hji15
                    by_cases c16 : 0 ≤ (ji15)
                    · rw [if_pos c16] at H
                      have c16b0 : decide (0 ≤ (ji15)) = true := decide_eq_true c16
                      clear c16
                      by_cases c17 : (ji15) < (l0.length : Int)
                      · rw [if_pos c17] at H
                        have c17b0 : decide ((ji15) < (l0.length : Int)) = true := decide_eq_true c17
                        clear c17
                        replace H := Option.bind_eq_some_iff.mp H
                        obtain ⟨t122, A180, H⟩ := H
                        replace H : (if t122 ≥ 0 then (some false) else (store_Right.l0 k1 l0 l0 (l0.length : Int) (wrap64 (x7_1 + 1)))) = some r := H
                        have A18 := Aside0.mk A180
                        clear A180
                        by_cases c19 : t122 ≥ 0
                        · rw [if_pos c19] at H
                          have c19b0 : decide (0 ≤ t122) = true := decide_eq_true c19
                          clear c19
                          obtain rfl := Option.some.inj H
                          have p117 : 0 ≤ (x7_1 : Int) := of_decide_eq_true (by first | (with_reducible assumption) | assumption)
                          have q117 : x7_1 < (l0.length : Int) := of_decide_eq_true (by first | (with_reducible assumption) | assumption)
                          obtain ⟨ad117, A117_0, c117_0, A117_1, c117_1, e117, hx117_0, hx117_1, hl117_0, hi117_0, hl117_1, hi117_1⟩ := at_T59 HR0.out x7_1 p117 q117
                          cases e117
                          replace hx117_0 := (HB.out.cell (World.block_lt_of_cell? w _ hx117_0)).trans hx117_0
                          replace hx117_1 := (HB.out.cell (World.block_lt_of_cell? w _ hx117_1)).trans hx117_1
                          have HR117_0 := Aside0.mk hi117_0
                          have HC117_0 := Aside0.mk hl117_0
                          clear hi117_0 hl117_0
                          have HR117_1 := Aside0.mk hi117_1
                          have HC117_1 := Aside0.mk hl117_1
                          clear hi117_1 hl117_1
                          replace p117 := eq_true p117
                          replace q117 := eq_true q117
                          try go_wp2_with (first | ((with_reducible refine gate_dst (N := 4) rfl ?_); refine box_event ?hg (N := 4) ?hd (cs := #[.slice none 0 0, .slice none 0 0]) (t := 59) ?hr ?_; (case hd => rfl); (case hg => rfl); (case hr => first | (go_simp; done) | (go_simp; rfl)); intro gb118 hg w20 hbox hb; have n0_ := Aside0.mk (below_step (by repeat (first | (with_reducible first | exact HB.out | apply below_alloc | apply pw_below_drewN | apply below_drew1) | exact HB.out)) hb); have n1_ := Aside0.mk (hbox); have n2_ := Aside0.mk ((by rw [hg]; exact (below_size (by repeat (first | (with_reducible first | exact HB.out | apply below_alloc | apply pw_below_drewN | apply below_drew1) | exact HB.out))) : w.heap.size ≤ gb118)); have n3_ := Aside0.mk ((by rw [hg]; exact (below_size (by repeat (first | (with_reducible first | exact HB.out | apply below_alloc | apply pw_below_drewN | apply below_drew1) | exact HB.out))) : w.heap.size ≤ gb118)); clear HB; have HB := n0_; have BK118 := n1_; have GW118 := n2_; have GE118 := n3_; clear n0_ n1_ n2_ n3_; clear hb hbox hg; have hcz21_0 : w20.cell? ⟨gb118, 0, none⟩ = some (.slice none 0 0) := (blk_cell BK118.out 0).trans rfl; have hcz21_1 : w20.cell? ⟨gb118, 1, none⟩ = some (.slice none 0 0) := (blk_cell BK118.out 1).trans rfl; have hfz21_0 := blk_frozen BK118.out 0; have hfz21_1 := blk_frozen BK118.out 1))
                          have n0_ : Aside0 (((w20.setCell ⟨gb118, 0, none⟩ (.slice A117_0 ((rd_T59 l0 x7_1).f0).length c117_0)).setCell ⟨gb118, 1, none⟩ (.slice A117_1 ((rd_T59 l0 x7_1).f1).length c117_1)).heap[gb118]? = some (.cells #[.slice A117_0 ((rd_T59 l0 x7_1).f0).length c117_0, .slice A117_1 ((rd_T59 l0 x7_1).f1).length c117_1] 59 (0, 0))) := ⟨by (with_reducible repeat (first | refine blk_drewN ?_ _ | refine blk_drew ?_ | refine blk_alloc ?_ _)); refine blk_put (cs := #[.slice A117_0 ((rd_T59 l0 x7_1).f0).length c117_0, .slice none 0 0]) ?_ 1 _ rfl; (with_reducible repeat (first | refine blk_drewN ?_ _ | refine blk_drew ?_ | refine blk_alloc ?_ _)); refine blk_put (cs := #[.slice none 0 0, .slice none 0 0]) ?_ 0 _ rfl; (with_reducible repeat (first | refine blk_drewN ?_ _ | refine blk_drew ?_ | refine blk_alloc ?_ _)); exact BK118.out⟩
                          have n1_ : Aside0 (Below w.heap.size w ((w20.setCell ⟨gb118, 0, none⟩ (.slice A117_0 ((rd_T59 l0 x7_1).f0).length c117_0)).setCell ⟨gb118, 1, none⟩ (.slice A117_1 ((rd_T59 l0 x7_1).f1).length c117_1))) := ⟨by repeat (first | (with_reducible first | exact HB.out | apply below_alloc | apply pw_below_drewN | apply below_drew1 | refine below_set ?_ GE118.out) | exact HB.out)⟩
                          (try clear BK118)
                          (try clear HB)
                          generalize ((w20.setCell ⟨gb118, 0, none⟩ (.slice A117_0 ((rd_T59 l0 x7_1).f0).length c117_0)).setCell ⟨gb118, 1, none⟩ (.slice A117_1 ((rd_T59 l0 x7_1).f1).length c117_1)) = w22 at n0_ n1_ ⊢
                          have BK118 := n0_
                          have HB := n1_
                          clear n0_ n1_
                          have n0_ := Aside0.mk (blk_drew BK118.out)
                          have n1_ := Aside0.mk (below_drew1 HB.out)
                          clear BK118
                          clear HB
                          have BK118 := n0_
                          have HB := n1_
                          clear n0_ n1_
                          have p121 : 0 ≤ ((ji15) : Int) := of_decide_eq_true (by first | (with_reducible assumption) | assumption)
                          have q121 : (ji15) < (l0.length : Int) := of_decide_eq_true (by first | (with_reducible assumption) | assumption)
                          obtain ⟨ad121, A121_0, c121_0, A121_1, c121_1, e121, hx121_0, hx121_1, hl121_0, hi121_0, hl121_1, hi121_1⟩ := at_T59 HR0.out (ji15) p121 q121
                          have hw121_1 := hx121_1
                          have hw121_0 := hx121_0
                          obtain rfl : ad117 = ad121 := (by injection e121)
                          replace hx121_0 := (HB.out.cell (World.block_lt_of_cell? w _ hx121_0)).trans hx121_0
                          replace hx121_1 := (HB.out.cell (World.block_lt_of_cell? w _ hx121_1)).trans hx121_1
                          have HR121_0 := Aside0.mk hi121_0
                          have HC121_0 := Aside0.mk hl121_0
                          clear hi121_0 hl121_0
                          have HR121_1 := Aside0.mk hi121_1
                          have HC121_1 := Aside0.mk hl121_1
                          clear hi121_1 hl121_1
                          replace p121 := eq_true p121
                          replace q121 := eq_true q121
                          refine start_ (n := 32) (S := fun w' => w'.cell? ⟨gb118, 0, none⟩ = some (.slice A117_0 ((rd_T59 l0 x7_1).f0).length c117_0) ∧ w'.cell? ⟨gb118, 1, none⟩ = some (.slice A117_1 ((rd_T59 l0 x7_1).f1).length c117_1) ∧ w'.cell? (ad117.add (((ji15)).toNat * 2)) = some (.slice A121_0 ((rd_T59 l0 (ji15)).f0).length c121_0) ∧ w'.cell? ⟨(ad117.add (((ji15)).toNat * 2)).block, (ad117.add (((ji15)).toNat * 2)).off + 1, none⟩ = some (.slice A121_1 ((rd_T59 l0 (ji15)).f1).length c121_1)) (ds := []) #[false, false, false, false, false, false, false, false, false, false, false, false, false, false, false, false, false, false, false, false, false, false, false, false, false, false, false, false, false, false, false, false] (by kernel_rfl) rfl rfl ⟨(blk_cell BK118.out 0).trans rfl, (blk_cell BK118.out 1).trans rfl, ((HB.out.cell (World.block_lt_of_cell? w _ hw121_0)).trans hw121_0), ((HB.out.cell (World.block_lt_of_cell? w _ hw121_1)).trans hw121_1)⟩ (fun hHeld => ?_); refine with_tabW store_Right.tab4 store_Right.bits4 (fun HT_ HW_ => ?_)
                          generalize w22.drew = w23 at BK118 HB HR121_0 HR121_1 hx121_0 hx121_1 hHeld ⊢
                          refine pure_ (i := 0) (N := some 12) (v := ?_) (a' := ?_) (Less.bv 32 1) rfl rfl (any_of HT_.out (by kernel_rfl)) (fun _ _ _ h => h) (Or.inl ⟨by rfl, ?_⟩) ?_ ?_
                          rotate_left
                          · intro w'
                            go_simp
                            with_reducible rfl
                          rotate_left
                          · simp only [Act.put, Less.p1, Less.p2, Less.p3, i64_w, i32_w]
                            rfl
                          refine take_ (i := 1) (N := some 13) (v := ?_) (a' := ?_) (Less.bv 32 3) rfl rfl (take_ofW HT_.out HW_.out (by kernel_rfl)) (fun _ _ _ h => h) (Or.inl ⟨by rfl, ?_⟩) hHeld ?_ ?_
                          rotate_left
                          · rintro w' ⟨s0, s1, s2, s3⟩
                            go_simp
                            with_reducible rfl
                          rotate_left
                          · simp only [Act.put, Less.p1, Less.p2, Less.p3, i64_w, i32_w]
                            rfl
                          refine pure_ (i := 2) (N := some 14) (v := ?_) (a' := ?_) (Less.bv 32 7) rfl rfl (any_of HT_.out (by kernel_rfl)) (fun _ _ _ h => h) (Or.inl ⟨by rfl, ?_⟩) ?_ ?_
                          rotate_left
                          · intro w'
                            go_simp
                            with_reducible rfl
                          rotate_left
                          · simp only [Act.put, Less.p1, Less.p2, Less.p3, i64_w, i32_w]
                            rfl
                          refine pure_ (i := 3) (N := some 15) (v := ?_) (a' := ?_) (Less.bv 32 15) rfl rfl (any_of HT_.out (by kernel_rfl)) (fun _ _ _ h => h) (Or.inl ⟨by rfl, ?_⟩) ?_ ?_
                          rotate_left
                          · intro w'
                            go_simp
                            with_reducible rfl
                          rotate_left
                          · simp only [Act.put, Less.p1, Less.p2, Less.p3, i64_w, i32_w]
                            rfl
                          refine pure_ (i := 4) (N := some 16) (v := ?_) (a' := ?_) (Less.bv 32 31) rfl rfl (any_of HT_.out (by kernel_rfl)) (fun _ _ _ h => h) (Or.inl ⟨by rfl, ?_⟩) ?_ ?_
                          rotate_left
                          · intro w'
                            go_simp
                            with_reducible rfl
                          rotate_left
                          · simp only [Act.put, Less.p1, Less.p2, Less.p3, i64_w, i32_w]
                            rfl
                          refine pure_ (i := 5) (N := some 17) (v := ?_) (a' := ?_) (Less.bv 32 63) rfl rfl (any_of HT_.out (by kernel_rfl)) (fun _ _ _ h => h) (Or.inl ⟨by rfl, ?_⟩) ?_ ?_
                          rotate_left
                          · intro w'
                            go_simp
                            with_reducible rfl
                          rotate_left
                          · simp only [Act.put, Less.p1, Less.p2, Less.p3, i64_w, i32_w]
                            rfl
                          refine take_ (i := 6) (N := some 18) (v := ?_) (a' := ?_) (Less.bv 32 127) rfl rfl (take_ofW HT_.out HW_.out (by kernel_rfl)) (fun _ _ _ h => h) (Or.inl ⟨by rfl, ?_⟩) hHeld ?_ ?_
                          rotate_left
                          · rintro w' ⟨s0, s1, s2, s3⟩
                            go_simp
                            with_reducible rfl
                          rotate_left
                          · simp only [Act.put, Less.p1, Less.p2, Less.p3, i64_w, i32_w]
                            rfl
                          refine one_ (i := 7) (N := some 19) (Less.bv 32 255) rfl rfl (one_of HT_.out (by kernel_rfl)) (by decide) (fun K hK => ?_)
                          refine goes_ Tryd.func67 (by kernel_rfl) rfl #[.slice A117_0 ((rd_T59 l0 x7_1).f0).length c117_0] (by rfl) rfl rfl (by (try simp only [List.map_toArray, List.map_cons, List.map_nil]); first | done | rfl | (simp only [List.length_drop, List.length_take]; rfl)) ?_
                          with_reducible refine (label_Right.calls k1 _ _ ((rd_T59 l0 x7_1).f0) true _ ?side1 ?side2 ?hGL A10.out).mono ?_
                          case hGL => exact GL.below HG.out (by repeat (first | (with_reducible first | exact HB.out | apply below_alloc | apply pw_below_drewN | apply below_drew1) | exact HB.out))
                          (case side1 => repeat (first | exact (Kd.C_below HR117_0.out HB.out) | (with_reducible refine Kd.C_alloc ?_ _) | (with_reducible refine Kd.C_drewN ?_ _) | (with_reducible refine Kd.C_drew ?_)))
                          (case side2 => exact HC117_0.out)
                          rintro e w24 ⟨rfl, hb⟩
                          refine ⟨_, rfl, ?_⟩
                          have n0_ := Aside0.mk (blk_below (g := gb118) (o := .cells #[.slice A117_0 ((rd_T59 l0 x7_1).f0).length c117_0, .slice A117_1 ((rd_T59 l0 x7_1).f1).length c117_1] 59 (0, 0)) (by (with_reducible repeat (first | refine blk_drewN ?_ _ | refine blk_drew ?_ | refine blk_alloc ?_ _)); exact BK118.out) hb)
                          have n1_ := Aside0.mk (below_step (by repeat (first | (with_reducible first | exact HB.out | apply below_alloc | apply pw_below_drewN | apply below_drew1 | refine below_set ?_ GE118.out) | exact HB.out)) hb)
                          clear BK118
                          clear HB
                          have BK118 := n0_
                          have HB := n1_
                          clear n0_ n1_
                          (try clear hb)
                          (try clear hb2)
                          (try clear hk)
                          (try clear hi)
                          refine hK.out _ _ ⟨(blk_cell BK118.out 0).trans rfl, (blk_cell BK118.out 1).trans rfl, ((HB.out.cell (World.block_lt_of_cell? w _ hw121_0)).trans hw121_0), ((HB.out.cell (World.block_lt_of_cell? w _ hw121_1)).trans hw121_1)⟩ (fun hHeld => ?_)
                          clear hK K
                          refine norm_ (a' := ?_) ?_ ?_
                          rotate_left
                          · show Act.put _ (some 19) _ = _
                            simp only [Act.put, Less.p1, Less.p2, Less.p3, i64_w, i32_w]
                            rfl
                          refine pure_ (i := 8) (N := some 20) (v := ?_) (a' := ?_) (Less.bv 32 511) rfl rfl (any_of HT_.out (by kernel_rfl)) (fun _ _ _ h => h) (Or.inl ⟨by rfl, ?_⟩) ?_ ?_
                          rotate_left
                          · intro w'
                            go_simp
                            with_reducible rfl
                          rotate_left
                          · simp only [Act.put, Less.p1, Less.p2, Less.p3, i64_w, i32_w]
                            rfl
                          refine pure_ (i := 9) (N := some 21) (v := ?_) (a' := ?_) (Less.bv 32 1023) rfl rfl (any_of HT_.out (by kernel_rfl)) (fun _ _ _ h => h) (Or.inl ⟨by rfl, ?_⟩) ?_ ?_
                          rotate_left
                          · intro w'
                            go_simp
                            with_reducible rfl
                          rotate_left
                          · simp only [Act.put, Less.p1, Less.p2, Less.p3, i64_w, i32_w]
                            rfl
                          refine pure_ (i := 10) (N := some 22) (v := ?_) (a' := ?_) (Less.bv 32 2047) rfl rfl (any_of HT_.out (by kernel_rfl)) (fun _ _ _ h => h) (Or.inl ⟨by rfl, ?_⟩) ?_ ?_
                          rotate_left
                          · intro w'
                            go_simp
                            with_reducible rfl
                          rotate_left
                          · simp only [Act.put, Less.p1, Less.p2, Less.p3, i64_w, i32_w]
                            rfl
                          refine pure_ (i := 11) (N := some 23) (v := ?_) (a' := ?_) (Less.bv 32 4095) rfl rfl (any_of HT_.out (by kernel_rfl)) (fun _ _ _ h => h) (Or.inl ⟨by rfl, ?_⟩) ?_ ?_
                          rotate_left
                          · intro w'
                            go_simp
                            with_reducible rfl
                          rotate_left
                          · simp only [Act.put, Less.p1, Less.p2, Less.p3, i64_w, i32_w]
                            rfl
                          refine take_ (i := 12) (N := some 24) (v := ?_) (a' := ?_) (Less.bv 32 8191) rfl rfl (take_ofW HT_.out HW_.out (by kernel_rfl)) (fun _ _ _ h => h) (Or.inl ⟨by rfl, ?_⟩) hHeld ?_ ?_
                          rotate_left
                          · rintro w' ⟨s0, s1, s2, s3⟩
                            go_simp
                            with_reducible rfl
                          rotate_left
                          · simp only [Act.put, Less.p1, Less.p2, Less.p3, i64_w, i32_w]
                            rfl
                          refine one_ (i := 13) (N := some 25) (Less.bv 32 16383) rfl rfl (one_of HT_.out (by kernel_rfl)) (by decide) (fun K hK => ?_)
                          refine goes_ Tryd.func68 (by kernel_rfl) rfl #[.slice A117_1 ((rd_T59 l0 x7_1).f1).length c117_1] (by rfl) rfl rfl (by (try simp only [List.map_toArray, List.map_cons, List.map_nil]); first | done | rfl | (simp only [List.length_drop, List.length_take]; rfl)) ?_
                          with_reducible refine (store_points.calls k1 _ _ ((rd_T59 l0 x7_1).f1) true _ ?side1 ?side2 A12.out).mono ?_
                          (case side1 => repeat (first | exact (Kd.C_below HR117_1.out HB.out) | (with_reducible refine Kd.C_alloc ?_ _) | (with_reducible refine Kd.C_drewN ?_ _) | (with_reducible refine Kd.C_drew ?_)))
                          (case side2 => exact HC117_1.out)
                          rintro e w25 ⟨rfl, hb⟩
                          refine ⟨_, rfl, ?_⟩
                          have n0_ := Aside0.mk (blk_below (g := gb118) (o := .cells #[.slice A117_0 ((rd_T59 l0 x7_1).f0).length c117_0, .slice A117_1 ((rd_T59 l0 x7_1).f1).length c117_1] 59 (0, 0)) (by (with_reducible repeat (first | refine blk_drewN ?_ _ | refine blk_drew ?_ | refine blk_alloc ?_ _)); exact BK118.out) hb)
                          have n1_ := Aside0.mk (below_step (by repeat (first | (with_reducible first | exact HB.out | apply below_alloc | apply pw_below_drewN | apply below_drew1 | refine below_set ?_ GE118.out) | exact HB.out)) hb)
                          clear BK118
                          clear HB
                          have BK118 := n0_
                          have HB := n1_
                          clear n0_ n1_
                          (try clear hb)
                          (try clear hb2)
                          (try clear hk)
                          (try clear hi)
                          refine hK.out _ _ ⟨(blk_cell BK118.out 0).trans rfl, (blk_cell BK118.out 1).trans rfl, ((HB.out.cell (World.block_lt_of_cell? w _ hw121_0)).trans hw121_0), ((HB.out.cell (World.block_lt_of_cell? w _ hw121_1)).trans hw121_1)⟩ (fun hHeld => ?_)
                          clear hK K
                          refine norm_ (a' := ?_) ?_ ?_
                          rotate_left
                          · show Act.put _ (some 25) _ = _
                            simp only [Act.put, Less.p1, Less.p2, Less.p3, i64_w, i32_w]
                            rfl
                          refine pure_ (i := 14) (N := some 26) (v := ?_) (a' := ?_) (Less.bv 32 32767) rfl rfl (any_of HT_.out (by kernel_rfl)) (fun _ _ _ h => h) (Or.inl ⟨by rfl, ?_⟩) ?_ ?_
                          rotate_left
                          · intro w'
                            go_simp
                            with_reducible rfl
                          rotate_left
                          · simp only [Act.put, Less.p1, Less.p2, Less.p3, i64_w, i32_w]
                            rfl
                          refine pure_ (i := 15) (N := some 27) (v := ?_) (a' := ?_) (Less.bv 32 65535) rfl rfl (any_of HT_.out (by kernel_rfl)) (fun _ _ _ h => h) (Or.inl ⟨by rfl, ?_⟩) ?_ ?_
                          rotate_left
                          · intro w'
                            go_simp
                            with_reducible rfl
                          rotate_left
                          · simp only [Act.put, Less.p1, Less.p2, Less.p3, i64_w, i32_w]
                            rfl
                          refine pure_ (i := 16) (N := some 28) (v := ?_) (a' := ?_) (Less.bv 32 131071) rfl rfl (any_of HT_.out (by kernel_rfl)) (fun _ _ _ h => h) (Or.inl ⟨by rfl, ?_⟩) ?_ ?_
                          rotate_left
                          · intro w'
                            go_simp
                            with_reducible rfl
                          rotate_left
                          · simp only [Act.put, Less.p1, Less.p2, Less.p3, i64_w, i32_w]
                            rfl
                          refine pure_ (i := 17) (N := some 29) (v := ?_) (a' := ?_) (Less.bv 32 262143) rfl rfl (any_of HT_.out (by kernel_rfl)) (fun _ _ _ h => h) (Or.inl ⟨by rfl, ?_⟩) ?_ ?_
                          rotate_left
                          · intro w'
                            go_simp
                            with_reducible rfl
                          rotate_left
                          · simp only [Act.put, Less.p1, Less.p2, Less.p3, i64_w, i32_w]
                            rfl
                          refine pure_ (i := 18) (N := some 30) (v := ?_) (a' := ?_) (Less.bv 32 524287) rfl rfl (any_of HT_.out (by kernel_rfl)) (fun _ _ _ h => h) (Or.inl ⟨by rfl, ?_⟩) ?_ ?_
                          rotate_left
                          · intro w'
                            go_simp
                            with_reducible rfl
                          rotate_left
                          · simp only [Act.put, Less.p1, Less.p2, Less.p3, i64_w, i32_w]
                            rfl
                          refine pure_ (i := 19) (N := some 31) (v := ?_) (a' := ?_) (Less.bv 32 1048575) rfl rfl (any_of HT_.out (by kernel_rfl)) (fun _ _ _ h => h) (Or.inl ⟨by rfl, ?_⟩) ?_ ?_
                          rotate_left
                          · intro w'
                            go_simp
                            with_reducible rfl
                          rotate_left
                          · simp only [Act.put, Less.p1, Less.p2, Less.p3, i64_w, i32_w]
                            rfl
                          refine pure_ (i := 20) (N := some 32) (v := ?_) (a' := ?_) (Less.bv 32 2097151) rfl rfl (any_of HT_.out (by kernel_rfl)) (fun _ _ _ h => h) (Or.inl ⟨by rfl, ?_⟩) ?_ ?_
                          rotate_left
                          · intro w'
                            go_simp
                            with_reducible rfl
                          rotate_left
                          · simp only [Act.put, Less.p1, Less.p2, Less.p3, i64_w, i32_w]
                            rfl
                          refine pure_ (i := 21) (N := some 33) (v := ?_) (a' := ?_) (Less.bv 32 4194303) rfl rfl (any_of HT_.out (by kernel_rfl)) (fun _ _ _ h => h) (Or.inl ⟨by rfl, ?_⟩) ?_ ?_
                          rotate_left
                          · intro w'
                            go_simp
                            with_reducible rfl
                          rotate_left
                          · simp only [Act.put, Less.p1, Less.p2, Less.p3, i64_w, i32_w]
                            rfl
                          refine pure_ (i := 22) (N := some 34) (v := ?_) (a' := ?_) (Less.bv 32 8388607) rfl rfl (any_of HT_.out (by kernel_rfl)) (fun _ _ _ h => h) (Or.inl ⟨by rfl, ?_⟩) ?_ ?_
                          rotate_left
                          · intro w'
                            go_simp
                            with_reducible rfl
                          rotate_left
                          · simp only [Act.put, Less.p1, Less.p2, Less.p3, i64_w, i32_w]
                            rfl
                          refine pure_ (i := 23) (N := some 35) (v := ?_) (a' := ?_) (Less.bv 32 16777215) rfl rfl (any_of HT_.out (by kernel_rfl)) (fun _ _ _ h => h) (Or.inl ⟨by rfl, ?_⟩) ?_ ?_
                          rotate_left
                          · intro w'
                            go_simp
                            with_reducible rfl
                          rotate_left
                          · simp only [Act.put, Less.p1, Less.p2, Less.p3, i64_w, i32_w]
                            rfl
                          refine pure_ (i := 24) (N := some 36) (v := ?_) (a' := ?_) (Less.bv 32 33554431) rfl rfl (any_of HT_.out (by kernel_rfl)) (fun _ _ _ h => h) (Or.inl ⟨by rfl, ?_⟩) ?_ ?_
                          rotate_left
                          · intro w'
                            go_simp
                            with_reducible rfl
                          rotate_left
                          · simp only [Act.put, Less.p1, Less.p2, Less.p3, i64_w, i32_w]
                            rfl
                          refine pure_ (i := 26) (N := some 38) (v := ?_) (a' := ?_) (Less.bv 32 100663295) rfl rfl (any_of HT_.out (by kernel_rfl)) (fun _ _ _ h => h) (Or.inl ⟨by rfl, ?_⟩) ?_ ?_
                          rotate_left
                          · intro w'
                            go_simp
                            with_reducible rfl
                          rotate_left
                          · simp only [Act.put, Less.p1, Less.p2, Less.p3, i64_w, i32_w]
                            rfl
                          refine take_ (i := 25) (N := some 37) (v := ?_) (a' := ?_) (Less.bv 32 134217727) rfl rfl (take_ofW HT_.out HW_.out (by kernel_rfl)) (fun _ _ _ h => h) (Or.inl ⟨by rfl, ?_⟩) hHeld ?_ ?_
                          rotate_left
                          · rintro w' ⟨s0, s1, s2, s3⟩
                            go_simp
                            with_reducible rfl
                          rotate_left
                          · simp only [Act.put, Less.p1, Less.p2, Less.p3, i64_w, i32_w]
                            rfl
                          refine take_ (i := 27) (N := some 39) (v := ?_) (a' := ?_) (Less.bv 32 268435455) rfl rfl (take_ofW HT_.out HW_.out (by kernel_rfl)) (fun _ _ _ h => h) (Or.inl ⟨by rfl, ?_⟩) hHeld ?_ ?_
                          rotate_left
                          · rintro w' ⟨s0, s1, s2, s3⟩
                            go_simp
                            with_reducible rfl
                          rotate_left
                          · simp only [Act.put, Less.p1, Less.p2, Less.p3, i64_w, i32_w]
                            rfl
                          refine one_ (i := 28) (N := some 40) (Less.bv 32 536870911) rfl rfl (one_of HT_.out (by kernel_rfl)) (by decide) (fun K hK => ?_)
                          refine goes_ Tryd.func51 (by kernel_rfl) rfl #[.slice A121_0 ((rd_T59 l0 (ji15)).f0).length c121_0, .slice A117_0 ((rd_T59 l0 x7_1).f0).length c117_0] (by rfl) rfl rfl (by (try simp only [List.map_toArray, List.map_cons, List.map_nil]); first | done | (simp only [hji15]; rfl) | rfl | (simp only [List.length_drop, List.length_take]; rfl)) ?_
                          with_reducible refine (label_Cmp.calls _ _ ((rd_T59 l0 (ji15)).f0) _ _ ((rd_T59 l0 x7_1).f0) t122 _ ?side1 ?side2 ?side3 ?side4 ?hGL A18.out).mono ?_
                          case hGL => exact GL.below HG.out (by repeat (first | (with_reducible first | exact HB.out | apply below_alloc | apply pw_below_drewN | apply below_drew1) | exact HB.out))
                          (case side1 => repeat (first | exact (Kd.C_below HR121_0.out HB.out) | (with_reducible refine Kd.C_alloc ?_ _) | (with_reducible refine Kd.C_drewN ?_ _) | (with_reducible refine Kd.C_drew ?_)))
                          (case side2 => exact HC121_0.out)
                          (case side3 => repeat (first | exact (Kd.C_below HR117_0.out HB.out) | (with_reducible refine Kd.C_alloc ?_ _) | (with_reducible refine Kd.C_drewN ?_ _) | (with_reducible refine Kd.C_drew ?_)))
                          (case side4 => exact HC117_0.out)
                          rintro e w26 ⟨rfl, hb⟩
                          refine ⟨_, rfl, ?_⟩
                          have n0_ := Aside0.mk (blk_below (g := gb118) (o := .cells #[.slice A117_0 ((rd_T59 l0 x7_1).f0).length c117_0, .slice A117_1 ((rd_T59 l0 x7_1).f1).length c117_1] 59 (0, 0)) (by (with_reducible repeat (first | refine blk_drewN ?_ _ | refine blk_drew ?_ | refine blk_alloc ?_ _)); exact BK118.out) hb)
                          have n1_ := Aside0.mk (below_step (by repeat (first | (with_reducible first | exact HB.out | apply below_alloc | apply pw_below_drewN | apply below_drew1 | refine below_set ?_ GE118.out) | exact HB.out)) hb)
                          clear BK118
                          clear HB
                          have BK118 := n0_
                          have HB := n1_
                          clear n0_ n1_
                          (try clear hb)
                          (try clear hb2)
                          (try clear hk)
                          (try clear hi)
                          refine hK.out _ _ ⟨(blk_cell BK118.out 0).trans rfl, (blk_cell BK118.out 1).trans rfl, ((HB.out.cell (World.block_lt_of_cell? w _ hw121_0)).trans hw121_0), ((HB.out.cell (World.block_lt_of_cell? w _ hw121_1)).trans hw121_1)⟩ (fun hHeld => ?_)
                          clear hK K
                          refine norm_ (a' := ?_) ?_ ?_
                          rotate_left
                          · show Act.put _ (some 40) _ = _
                            simp only [Act.put, Less.p1, Less.p2, Less.p3, i64_w, i32_w]
                            rfl
                          refine pure_ (i := 29) (N := some 41) (v := ?_) (a' := ?_) (Less.bv 32 1073741823) rfl rfl (any_of HT_.out (by kernel_rfl)) (fun _ _ _ h => h) (Or.inl ⟨by rfl, ?_⟩) ?_ ?_
                          rotate_left
                          · intro w'
                            go_simp
                            with_reducible rfl
                          rotate_left
                          · simp only [Act.put, Less.p1, Less.p2, Less.p3, i64_w, i32_w]
                            rfl
                          refine pure_ (i := 30) (N := some 42) (v := ?_) (a' := ?_) (Less.bv 32 2147483647) rfl rfl (any_of HT_.out (by kernel_rfl)) (fun _ _ _ h => h) (Or.inl ⟨by rfl, ?_⟩) ?_ ?_
                          rotate_left
                          · intro w'
                            go_simp
                            with_reducible rfl
                          rotate_left
                          · simp only [Act.put, Less.p1, Less.p2, Less.p3, i64_w, i32_w]
                            rfl
                          refine pure_ (i := 31) (N := some 43) (v := ?_) (a' := ?_) (Less.bv 32 4294967295) rfl rfl (any_of HT_.out (by kernel_rfl)) (fun _ _ _ h => h) (Or.inl ⟨by rfl, ?_⟩) ?_ ?_
                          rotate_left
                          · intro w'
                            go_simp
                            with_reducible rfl
                          rotate_left
                          · simp only [Act.put, Less.p1, Less.p2, Less.p3, i64_w, i32_w]
                            rfl
                          refine done_ (done_of HT_.out (by kernel_rfl)) ?_
                          try go_wp2
                          go_ret
                          exact ⟨by first | rfl | (simp [errW_none, errW_some] <;> rfl) | (simp only [← hji15]; first | rfl | (simp [errW_none, errW_some] <;> rfl)) | (simp [*, errW_none, errW_some] <;> rfl), by repeat (first | (with_reducible first | exact HB.out | apply below_alloc | apply pw_below_drewN | apply below_drew1 | refine below_set ?_ GE118.out) | exact HB.out)⟩
                        · rw [if_neg c19] at H
                          have c19b0 : decide (0 ≤ t122) = false := decide_eq_false c19
                          clear c19
                          have H' := Aside0.mk H
                          clear H
                          have p117 : 0 ≤ (x7_1 : Int) := of_decide_eq_true (by first | (with_reducible assumption) | assumption)
                          have q117 : x7_1 < (l0.length : Int) := of_decide_eq_true (by first | (with_reducible assumption) | assumption)
                          obtain ⟨ad117, A117_0, c117_0, A117_1, c117_1, e117, hx117_0, hx117_1, hl117_0, hi117_0, hl117_1, hi117_1⟩ := at_T59 HR0.out x7_1 p117 q117
                          cases e117
                          replace hx117_0 := (HB.out.cell (World.block_lt_of_cell? w _ hx117_0)).trans hx117_0
                          replace hx117_1 := (HB.out.cell (World.block_lt_of_cell? w _ hx117_1)).trans hx117_1
                          have HR117_0 := Aside0.mk hi117_0
                          have HC117_0 := Aside0.mk hl117_0
                          clear hi117_0 hl117_0
                          have HR117_1 := Aside0.mk hi117_1
                          have HC117_1 := Aside0.mk hl117_1
                          clear hi117_1 hl117_1
                          replace p117 := eq_true p117
                          replace q117 := eq_true q117
                          try go_wp2_with (first | ((with_reducible refine gate_dst (N := 4) rfl ?_); refine box_event ?hg (N := 4) ?hd (cs := #[.slice none 0 0, .slice none 0 0]) (t := 59) ?hr ?_; (case hd => rfl); (case hg => rfl); (case hr => first | (go_simp; done) | (go_simp; rfl)); intro gb118 hg w27 hbox hb; have n0_ := Aside0.mk (below_step (by repeat (first | (with_reducible first | exact HB.out | apply below_alloc | apply pw_below_drewN | apply below_drew1) | exact HB.out)) hb); have n1_ := Aside0.mk (hbox); have n2_ := Aside0.mk ((by rw [hg]; exact (below_size (by repeat (first | (with_reducible first | exact HB.out | apply below_alloc | apply pw_below_drewN | apply below_drew1) | exact HB.out))) : w.heap.size ≤ gb118)); have n3_ := Aside0.mk ((by rw [hg]; exact (below_size (by repeat (first | (with_reducible first | exact HB.out | apply below_alloc | apply pw_below_drewN | apply below_drew1) | exact HB.out))) : w.heap.size ≤ gb118)); clear HB; have HB := n0_; have BK118 := n1_; have GW118 := n2_; have GE118 := n3_; clear n0_ n1_ n2_ n3_; clear hb hbox hg; have hcz28_0 : w27.cell? ⟨gb118, 0, none⟩ = some (.slice none 0 0) := (blk_cell BK118.out 0).trans rfl; have hcz28_1 : w27.cell? ⟨gb118, 1, none⟩ = some (.slice none 0 0) := (blk_cell BK118.out 1).trans rfl; have hfz28_0 := blk_frozen BK118.out 0; have hfz28_1 := blk_frozen BK118.out 1))
                          have n0_ : Aside0 (((w27.setCell ⟨gb118, 0, none⟩ (.slice A117_0 ((rd_T59 l0 x7_1).f0).length c117_0)).setCell ⟨gb118, 1, none⟩ (.slice A117_1 ((rd_T59 l0 x7_1).f1).length c117_1)).heap[gb118]? = some (.cells #[.slice A117_0 ((rd_T59 l0 x7_1).f0).length c117_0, .slice A117_1 ((rd_T59 l0 x7_1).f1).length c117_1] 59 (0, 0))) := ⟨by (with_reducible repeat (first | refine blk_drewN ?_ _ | refine blk_drew ?_ | refine blk_alloc ?_ _)); refine blk_put (cs := #[.slice A117_0 ((rd_T59 l0 x7_1).f0).length c117_0, .slice none 0 0]) ?_ 1 _ rfl; (with_reducible repeat (first | refine blk_drewN ?_ _ | refine blk_drew ?_ | refine blk_alloc ?_ _)); refine blk_put (cs := #[.slice none 0 0, .slice none 0 0]) ?_ 0 _ rfl; (with_reducible repeat (first | refine blk_drewN ?_ _ | refine blk_drew ?_ | refine blk_alloc ?_ _)); exact BK118.out⟩
                          have n1_ : Aside0 (Below w.heap.size w ((w27.setCell ⟨gb118, 0, none⟩ (.slice A117_0 ((rd_T59 l0 x7_1).f0).length c117_0)).setCell ⟨gb118, 1, none⟩ (.slice A117_1 ((rd_T59 l0 x7_1).f1).length c117_1))) := ⟨by repeat (first | (with_reducible first | exact HB.out | apply below_alloc | apply pw_below_drewN | apply below_drew1 | refine below_set ?_ GE118.out) | exact HB.out)⟩
                          (try clear BK118)
                          (try clear HB)
                          generalize ((w27.setCell ⟨gb118, 0, none⟩ (.slice A117_0 ((rd_T59 l0 x7_1).f0).length c117_0)).setCell ⟨gb118, 1, none⟩ (.slice A117_1 ((rd_T59 l0 x7_1).f1).length c117_1)) = w29 at n0_ n1_ ⊢
                          have BK118 := n0_
                          have HB := n1_
                          clear n0_ n1_
                          have n0_ := Aside0.mk (blk_drew BK118.out)
                          have n1_ := Aside0.mk (below_drew1 HB.out)
                          clear BK118
                          clear HB
                          have BK118 := n0_
                          have HB := n1_
                          clear n0_ n1_
                          have p121 : 0 ≤ ((ji15) : Int) := of_decide_eq_true (by first | (with_reducible assumption) | assumption)
                          have q121 : (ji15) < (l0.length : Int) := of_decide_eq_true (by first | (with_reducible assumption) | assumption)
                          obtain ⟨ad121, A121_0, c121_0, A121_1, c121_1, e121, hx121_0, hx121_1, hl121_0, hi121_0, hl121_1, hi121_1⟩ := at_T59 HR0.out (ji15) p121 q121
                          have hw121_1 := hx121_1
                          have hw121_0 := hx121_0
                          obtain rfl : ad117 = ad121 := (by injection e121)
                          replace hx121_0 := (HB.out.cell (World.block_lt_of_cell? w _ hx121_0)).trans hx121_0
                          replace hx121_1 := (HB.out.cell (World.block_lt_of_cell? w _ hx121_1)).trans hx121_1
                          have HR121_0 := Aside0.mk hi121_0
                          have HC121_0 := Aside0.mk hl121_0
                          clear hi121_0 hl121_0
                          have HR121_1 := Aside0.mk hi121_1
                          have HC121_1 := Aside0.mk hl121_1
                          clear hi121_1 hl121_1
                          replace p121 := eq_true p121
                          replace q121 := eq_true q121
                          refine start_ (n := 32) (S := fun w' => w'.cell? ⟨gb118, 0, none⟩ = some (.slice A117_0 ((rd_T59 l0 x7_1).f0).length c117_0) ∧ w'.cell? ⟨gb118, 1, none⟩ = some (.slice A117_1 ((rd_T59 l0 x7_1).f1).length c117_1) ∧ w'.cell? (ad117.add (((ji15)).toNat * 2)) = some (.slice A121_0 ((rd_T59 l0 (ji15)).f0).length c121_0) ∧ w'.cell? ⟨(ad117.add (((ji15)).toNat * 2)).block, (ad117.add (((ji15)).toNat * 2)).off + 1, none⟩ = some (.slice A121_1 ((rd_T59 l0 (ji15)).f1).length c121_1)) (ds := []) #[false, false, false, false, false, false, false, false, false, false, false, false, false, false, false, false, false, false, false, false, false, false, false, false, false, false, false, false, false, false, false, false] (by kernel_rfl) rfl rfl ⟨(blk_cell BK118.out 0).trans rfl, (blk_cell BK118.out 1).trans rfl, ((HB.out.cell (World.block_lt_of_cell? w _ hw121_0)).trans hw121_0), ((HB.out.cell (World.block_lt_of_cell? w _ hw121_1)).trans hw121_1)⟩ (fun hHeld => ?_); refine with_tabW store_Right.tab4 store_Right.bits4 (fun HT_ HW_ => ?_)
                          generalize w29.drew = w30 at BK118 HB HR121_0 HR121_1 hx121_0 hx121_1 hHeld ⊢
                          refine pure_ (i := 0) (N := some 12) (v := ?_) (a' := ?_) (Less.bv 32 1) rfl rfl (any_of HT_.out (by kernel_rfl)) (fun _ _ _ h => h) (Or.inl ⟨by rfl, ?_⟩) ?_ ?_
                          rotate_left
                          · intro w'
                            go_simp
                            with_reducible rfl
                          rotate_left
                          · simp only [Act.put, Less.p1, Less.p2, Less.p3, i64_w, i32_w]
                            rfl
                          refine take_ (i := 1) (N := some 13) (v := ?_) (a' := ?_) (Less.bv 32 3) rfl rfl (take_ofW HT_.out HW_.out (by kernel_rfl)) (fun _ _ _ h => h) (Or.inl ⟨by rfl, ?_⟩) hHeld ?_ ?_
                          rotate_left
                          · rintro w' ⟨s0, s1, s2, s3⟩
                            go_simp
                            with_reducible rfl
                          rotate_left
                          · simp only [Act.put, Less.p1, Less.p2, Less.p3, i64_w, i32_w]
                            rfl
                          refine pure_ (i := 2) (N := some 14) (v := ?_) (a' := ?_) (Less.bv 32 7) rfl rfl (any_of HT_.out (by kernel_rfl)) (fun _ _ _ h => h) (Or.inl ⟨by rfl, ?_⟩) ?_ ?_
                          rotate_left
                          · intro w'
                            go_simp
                            with_reducible rfl
                          rotate_left
                          · simp only [Act.put, Less.p1, Less.p2, Less.p3, i64_w, i32_w]
                            rfl
                          refine pure_ (i := 3) (N := some 15) (v := ?_) (a' := ?_) (Less.bv 32 15) rfl rfl (any_of HT_.out (by kernel_rfl)) (fun _ _ _ h => h) (Or.inl ⟨by rfl, ?_⟩) ?_ ?_
                          rotate_left
                          · intro w'
                            go_simp
                            with_reducible rfl
                          rotate_left
                          · simp only [Act.put, Less.p1, Less.p2, Less.p3, i64_w, i32_w]
                            rfl
                          refine pure_ (i := 4) (N := some 16) (v := ?_) (a' := ?_) (Less.bv 32 31) rfl rfl (any_of HT_.out (by kernel_rfl)) (fun _ _ _ h => h) (Or.inl ⟨by rfl, ?_⟩) ?_ ?_
                          rotate_left
                          · intro w'
                            go_simp
                            with_reducible rfl
                          rotate_left
                          · simp only [Act.put, Less.p1, Less.p2, Less.p3, i64_w, i32_w]
                            rfl
                          refine pure_ (i := 5) (N := some 17) (v := ?_) (a' := ?_) (Less.bv 32 63) rfl rfl (any_of HT_.out (by kernel_rfl)) (fun _ _ _ h => h) (Or.inl ⟨by rfl, ?_⟩) ?_ ?_
                          rotate_left
                          · intro w'
                            go_simp
                            with_reducible rfl
                          rotate_left
                          · simp only [Act.put, Less.p1, Less.p2, Less.p3, i64_w, i32_w]
                            rfl
                          refine take_ (i := 6) (N := some 18) (v := ?_) (a' := ?_) (Less.bv 32 127) rfl rfl (take_ofW HT_.out HW_.out (by kernel_rfl)) (fun _ _ _ h => h) (Or.inl ⟨by rfl, ?_⟩) hHeld ?_ ?_
                          rotate_left
                          · rintro w' ⟨s0, s1, s2, s3⟩
                            go_simp
                            with_reducible rfl
                          rotate_left
                          · simp only [Act.put, Less.p1, Less.p2, Less.p3, i64_w, i32_w]
                            rfl
                          refine one_ (i := 7) (N := some 19) (Less.bv 32 255) rfl rfl (one_of HT_.out (by kernel_rfl)) (by decide) (fun K hK => ?_)
                          refine goes_ Tryd.func67 (by kernel_rfl) rfl #[.slice A117_0 ((rd_T59 l0 x7_1).f0).length c117_0] (by rfl) rfl rfl (by (try simp only [List.map_toArray, List.map_cons, List.map_nil]); first | done | rfl | (simp only [List.length_drop, List.length_take]; rfl)) ?_
                          with_reducible refine (label_Right.calls k1 _ _ ((rd_T59 l0 x7_1).f0) true _ ?side1 ?side2 ?hGL A10.out).mono ?_
                          case hGL => exact GL.below HG.out (by repeat (first | (with_reducible first | exact HB.out | apply below_alloc | apply pw_below_drewN | apply below_drew1) | exact HB.out))
                          (case side1 => repeat (first | exact (Kd.C_below HR117_0.out HB.out) | (with_reducible refine Kd.C_alloc ?_ _) | (with_reducible refine Kd.C_drewN ?_ _) | (with_reducible refine Kd.C_drew ?_)))
                          (case side2 => exact HC117_0.out)
                          rintro e w31 ⟨rfl, hb⟩
                          refine ⟨_, rfl, ?_⟩
                          have n0_ := Aside0.mk (blk_below (g := gb118) (o := .cells #[.slice A117_0 ((rd_T59 l0 x7_1).f0).length c117_0, .slice A117_1 ((rd_T59 l0 x7_1).f1).length c117_1] 59 (0, 0)) (by (with_reducible repeat (first | refine blk_drewN ?_ _ | refine blk_drew ?_ | refine blk_alloc ?_ _)); exact BK118.out) hb)
                          have n1_ := Aside0.mk (below_step (by repeat (first | (with_reducible first | exact HB.out | apply below_alloc | apply pw_below_drewN | apply below_drew1 | refine below_set ?_ GE118.out) | exact HB.out)) hb)
                          clear BK118
                          clear HB
                          have BK118 := n0_
                          have HB := n1_
                          clear n0_ n1_
                          (try clear hb)
                          (try clear hb2)
                          (try clear hk)
                          (try clear hi)
                          refine hK.out _ _ ⟨(blk_cell BK118.out 0).trans rfl, (blk_cell BK118.out 1).trans rfl, ((HB.out.cell (World.block_lt_of_cell? w _ hw121_0)).trans hw121_0), ((HB.out.cell (World.block_lt_of_cell? w _ hw121_1)).trans hw121_1)⟩ (fun hHeld => ?_)
                          clear hK K
                          refine norm_ (a' := ?_) ?_ ?_
                          rotate_left
                          · show Act.put _ (some 19) _ = _
                            simp only [Act.put, Less.p1, Less.p2, Less.p3, i64_w, i32_w]
                            rfl
                          refine pure_ (i := 8) (N := some 20) (v := ?_) (a' := ?_) (Less.bv 32 511) rfl rfl (any_of HT_.out (by kernel_rfl)) (fun _ _ _ h => h) (Or.inl ⟨by rfl, ?_⟩) ?_ ?_
                          rotate_left
                          · intro w'
                            go_simp
                            with_reducible rfl
                          rotate_left
                          · simp only [Act.put, Less.p1, Less.p2, Less.p3, i64_w, i32_w]
                            rfl
                          refine pure_ (i := 9) (N := some 21) (v := ?_) (a' := ?_) (Less.bv 32 1023) rfl rfl (any_of HT_.out (by kernel_rfl)) (fun _ _ _ h => h) (Or.inl ⟨by rfl, ?_⟩) ?_ ?_
                          rotate_left
                          · intro w'
                            go_simp
                            with_reducible rfl
                          rotate_left
                          · simp only [Act.put, Less.p1, Less.p2, Less.p3, i64_w, i32_w]
                            rfl
                          refine pure_ (i := 10) (N := some 22) (v := ?_) (a' := ?_) (Less.bv 32 2047) rfl rfl (any_of HT_.out (by kernel_rfl)) (fun _ _ _ h => h) (Or.inl ⟨by rfl, ?_⟩) ?_ ?_
                          rotate_left
                          · intro w'
                            go_simp
                            with_reducible rfl
                          rotate_left
                          · simp only [Act.put, Less.p1, Less.p2, Less.p3, i64_w, i32_w]
                            rfl
                          refine pure_ (i := 11) (N := some 23) (v := ?_) (a' := ?_) (Less.bv 32 4095) rfl rfl (any_of HT_.out (by kernel_rfl)) (fun _ _ _ h => h) (Or.inl ⟨by rfl, ?_⟩) ?_ ?_
                          rotate_left
                          · intro w'
                            go_simp
                            with_reducible rfl
                          rotate_left
                          · simp only [Act.put, Less.p1, Less.p2, Less.p3, i64_w, i32_w]
                            rfl
                          refine take_ (i := 12) (N := some 24) (v := ?_) (a' := ?_) (Less.bv 32 8191) rfl rfl (take_ofW HT_.out HW_.out (by kernel_rfl)) (fun _ _ _ h => h) (Or.inl ⟨by rfl, ?_⟩) hHeld ?_ ?_
                          rotate_left
                          · rintro w' ⟨s0, s1, s2, s3⟩
                            go_simp
                            with_reducible rfl
                          rotate_left
                          · simp only [Act.put, Less.p1, Less.p2, Less.p3, i64_w, i32_w]
                            rfl
                          refine one_ (i := 13) (N := some 25) (Less.bv 32 16383) rfl rfl (one_of HT_.out (by kernel_rfl)) (by decide) (fun K hK => ?_)
                          refine goes_ Tryd.func68 (by kernel_rfl) rfl #[.slice A117_1 ((rd_T59 l0 x7_1).f1).length c117_1] (by rfl) rfl rfl (by (try simp only [List.map_toArray, List.map_cons, List.map_nil]); first | done | rfl | (simp only [List.length_drop, List.length_take]; rfl)) ?_
                          with_reducible refine (store_points.calls k1 _ _ ((rd_T59 l0 x7_1).f1) true _ ?side1 ?side2 A12.out).mono ?_
                          (case side1 => repeat (first | exact (Kd.C_below HR117_1.out HB.out) | (with_reducible refine Kd.C_alloc ?_ _) | (with_reducible refine Kd.C_drewN ?_ _) | (with_reducible refine Kd.C_drew ?_)))
                          (case side2 => exact HC117_1.out)
                          rintro e w32 ⟨rfl, hb⟩
                          refine ⟨_, rfl, ?_⟩
                          have n0_ := Aside0.mk (blk_below (g := gb118) (o := .cells #[.slice A117_0 ((rd_T59 l0 x7_1).f0).length c117_0, .slice A117_1 ((rd_T59 l0 x7_1).f1).length c117_1] 59 (0, 0)) (by (with_reducible repeat (first | refine blk_drewN ?_ _ | refine blk_drew ?_ | refine blk_alloc ?_ _)); exact BK118.out) hb)
                          have n1_ := Aside0.mk (below_step (by repeat (first | (with_reducible first | exact HB.out | apply below_alloc | apply pw_below_drewN | apply below_drew1 | refine below_set ?_ GE118.out) | exact HB.out)) hb)
                          clear BK118
                          clear HB
                          have BK118 := n0_
                          have HB := n1_
                          clear n0_ n1_
                          (try clear hb)
                          (try clear hb2)
                          (try clear hk)
                          (try clear hi)
                          refine hK.out _ _ ⟨(blk_cell BK118.out 0).trans rfl, (blk_cell BK118.out 1).trans rfl, ((HB.out.cell (World.block_lt_of_cell? w _ hw121_0)).trans hw121_0), ((HB.out.cell (World.block_lt_of_cell? w _ hw121_1)).trans hw121_1)⟩ (fun hHeld => ?_)
                          clear hK K
                          refine norm_ (a' := ?_) ?_ ?_
                          rotate_left
                          · show Act.put _ (some 25) _ = _
                            simp only [Act.put, Less.p1, Less.p2, Less.p3, i64_w, i32_w]
                            rfl
                          refine pure_ (i := 14) (N := some 26) (v := ?_) (a' := ?_) (Less.bv 32 32767) rfl rfl (any_of HT_.out (by kernel_rfl)) (fun _ _ _ h => h) (Or.inl ⟨by rfl, ?_⟩) ?_ ?_
                          rotate_left
                          · intro w'
                            go_simp
                            with_reducible rfl
                          rotate_left
                          · simp only [Act.put, Less.p1, Less.p2, Less.p3, i64_w, i32_w]
                            rfl
                          refine pure_ (i := 15) (N := some 27) (v := ?_) (a' := ?_) (Less.bv 32 65535) rfl rfl (any_of HT_.out (by kernel_rfl)) (fun _ _ _ h => h) (Or.inl ⟨by rfl, ?_⟩) ?_ ?_
                          rotate_left
                          · intro w'
                            go_simp
                            with_reducible rfl
                          rotate_left
                          · simp only [Act.put, Less.p1, Less.p2, Less.p3, i64_w, i32_w]
                            rfl
                          refine pure_ (i := 16) (N := some 28) (v := ?_) (a' := ?_) (Less.bv 32 131071) rfl rfl (any_of HT_.out (by kernel_rfl)) (fun _ _ _ h => h) (Or.inl ⟨by rfl, ?_⟩) ?_ ?_
                          rotate_left
                          · intro w'
                            go_simp
                            with_reducible rfl
                          rotate_left
                          · simp only [Act.put, Less.p1, Less.p2, Less.p3, i64_w, i32_w]
                            rfl
                          refine pure_ (i := 17) (N := some 29) (v := ?_) (a' := ?_) (Less.bv 32 262143) rfl rfl (any_of HT_.out (by kernel_rfl)) (fun _ _ _ h => h) (Or.inl ⟨by rfl, ?_⟩) ?_ ?_
                          rotate_left
                          · intro w'
                            go_simp
                            with_reducible rfl
                          rotate_left
                          · simp only [Act.put, Less.p1, Less.p2, Less.p3, i64_w, i32_w]
                            rfl
                          refine pure_ (i := 18) (N := some 30) (v := ?_) (a' := ?_) (Less.bv 32 524287) rfl rfl (any_of HT_.out (by kernel_rfl)) (fun _ _ _ h => h) (Or.inl ⟨by rfl, ?_⟩) ?_ ?_
                          rotate_left
                          · intro w'
                            go_simp
                            with_reducible rfl
                          rotate_left
                          · simp only [Act.put, Less.p1, Less.p2, Less.p3, i64_w, i32_w]
                            rfl
                          refine pure_ (i := 19) (N := some 31) (v := ?_) (a' := ?_) (Less.bv 32 1048575) rfl rfl (any_of HT_.out (by kernel_rfl)) (fun _ _ _ h => h) (Or.inl ⟨by rfl, ?_⟩) ?_ ?_
                          rotate_left
                          · intro w'
                            go_simp
                            with_reducible rfl
                          rotate_left
                          · simp only [Act.put, Less.p1, Less.p2, Less.p3, i64_w, i32_w]
                            rfl
                          refine pure_ (i := 20) (N := some 32) (v := ?_) (a' := ?_) (Less.bv 32 2097151) rfl rfl (any_of HT_.out (by kernel_rfl)) (fun _ _ _ h => h) (Or.inl ⟨by rfl, ?_⟩) ?_ ?_
                          rotate_left
                          · intro w'
                            go_simp
                            with_reducible rfl
                          rotate_left
                          · simp only [Act.put, Less.p1, Less.p2, Less.p3, i64_w, i32_w]
                            rfl
                          refine pure_ (i := 21) (N := some 33) (v := ?_) (a' := ?_) (Less.bv 32 4194303) rfl rfl (any_of HT_.out (by kernel_rfl)) (fun _ _ _ h => h) (Or.inl ⟨by rfl, ?_⟩) ?_ ?_
                          rotate_left
                          · intro w'
                            go_simp
                            with_reducible rfl
                          rotate_left
                          · simp only [Act.put, Less.p1, Less.p2, Less.p3, i64_w, i32_w]
                            rfl
                          refine pure_ (i := 22) (N := some 34) (v := ?_) (a' := ?_) (Less.bv 32 8388607) rfl rfl (any_of HT_.out (by kernel_rfl)) (fun _ _ _ h => h) (Or.inl ⟨by rfl, ?_⟩) ?_ ?_
                          rotate_left
                          · intro w'
                            go_simp
                            with_reducible rfl
                          rotate_left
                          · simp only [Act.put, Less.p1, Less.p2, Less.p3, i64_w, i32_w]
                            rfl
                          refine pure_ (i := 23) (N := some 35) (v := ?_) (a' := ?_) (Less.bv 32 16777215) rfl rfl (any_of HT_.out (by kernel_rfl)) (fun _ _ _ h => h) (Or.inl ⟨by rfl, ?_⟩) ?_ ?_
                          rotate_left
                          · intro w'
                            go_simp
                            with_reducible rfl
                          rotate_left
                          · simp only [Act.put, Less.p1, Less.p2, Less.p3, i64_w, i32_w]
                            rfl
                          refine pure_ (i := 24) (N := some 36) (v := ?_) (a' := ?_) (Less.bv 32 33554431) rfl rfl (any_of HT_.out (by kernel_rfl)) (fun _ _ _ h => h) (Or.inl ⟨by rfl, ?_⟩) ?_ ?_
                          rotate_left
                          · intro w'
                            go_simp
                            with_reducible rfl
                          rotate_left
                          · simp only [Act.put, Less.p1, Less.p2, Less.p3, i64_w, i32_w]
                            rfl
                          refine pure_ (i := 26) (N := some 38) (v := ?_) (a' := ?_) (Less.bv 32 100663295) rfl rfl (any_of HT_.out (by kernel_rfl)) (fun _ _ _ h => h) (Or.inl ⟨by rfl, ?_⟩) ?_ ?_
                          rotate_left
                          · intro w'
                            go_simp
                            with_reducible rfl
                          rotate_left
                          · simp only [Act.put, Less.p1, Less.p2, Less.p3, i64_w, i32_w]
                            rfl
                          refine take_ (i := 25) (N := some 37) (v := ?_) (a' := ?_) (Less.bv 32 134217727) rfl rfl (take_ofW HT_.out HW_.out (by kernel_rfl)) (fun _ _ _ h => h) (Or.inl ⟨by rfl, ?_⟩) hHeld ?_ ?_
                          rotate_left
                          · rintro w' ⟨s0, s1, s2, s3⟩
                            go_simp
                            with_reducible rfl
                          rotate_left
                          · simp only [Act.put, Less.p1, Less.p2, Less.p3, i64_w, i32_w]
                            rfl
                          refine take_ (i := 27) (N := some 39) (v := ?_) (a' := ?_) (Less.bv 32 268435455) rfl rfl (take_ofW HT_.out HW_.out (by kernel_rfl)) (fun _ _ _ h => h) (Or.inl ⟨by rfl, ?_⟩) hHeld ?_ ?_
                          rotate_left
                          · rintro w' ⟨s0, s1, s2, s3⟩
                            go_simp
                            with_reducible rfl
                          rotate_left
                          · simp only [Act.put, Less.p1, Less.p2, Less.p3, i64_w, i32_w]
                            rfl
                          refine one_ (i := 28) (N := some 40) (Less.bv 32 536870911) rfl rfl (one_of HT_.out (by kernel_rfl)) (by decide) (fun K hK => ?_)
                          refine goes_ Tryd.func51 (by kernel_rfl) rfl #[.slice A121_0 ((rd_T59 l0 (ji15)).f0).length c121_0, .slice A117_0 ((rd_T59 l0 x7_1).f0).length c117_0] (by rfl) rfl rfl (by (try simp only [List.map_toArray, List.map_cons, List.map_nil]); first | done | (simp only [hji15]; rfl) | rfl | (simp only [List.length_drop, List.length_take]; rfl)) ?_
                          with_reducible refine (label_Cmp.calls _ _ ((rd_T59 l0 (ji15)).f0) _ _ ((rd_T59 l0 x7_1).f0) t122 _ ?side1 ?side2 ?side3 ?side4 ?hGL A18.out).mono ?_
                          case hGL => exact GL.below HG.out (by repeat (first | (with_reducible first | exact HB.out | apply below_alloc | apply pw_below_drewN | apply below_drew1) | exact HB.out))
                          (case side1 => repeat (first | exact (Kd.C_below HR121_0.out HB.out) | (with_reducible refine Kd.C_alloc ?_ _) | (with_reducible refine Kd.C_drewN ?_ _) | (with_reducible refine Kd.C_drew ?_)))
                          (case side2 => exact HC121_0.out)
                          (case side3 => repeat (first | exact (Kd.C_below HR117_0.out HB.out) | (with_reducible refine Kd.C_alloc ?_ _) | (with_reducible refine Kd.C_drewN ?_ _) | (with_reducible refine Kd.C_drew ?_)))
                          (case side4 => exact HC117_0.out)
                          rintro e w33 ⟨rfl, hb⟩
                          refine ⟨_, rfl, ?_⟩
                          have n0_ := Aside0.mk (blk_below (g := gb118) (o := .cells #[.slice A117_0 ((rd_T59 l0 x7_1).f0).length c117_0, .slice A117_1 ((rd_T59 l0 x7_1).f1).length c117_1] 59 (0, 0)) (by (with_reducible repeat (first | refine blk_drewN ?_ _ | refine blk_drew ?_ | refine blk_alloc ?_ _)); exact BK118.out) hb)
                          have n1_ := Aside0.mk (below_step (by repeat (first | (with_reducible first | exact HB.out | apply below_alloc | apply pw_below_drewN | apply below_drew1 | refine below_set ?_ GE118.out) | exact HB.out)) hb)
                          clear BK118
                          clear HB
                          have BK118 := n0_
                          have HB := n1_
                          clear n0_ n1_
                          (try clear hb)
                          (try clear hb2)
                          (try clear hk)
                          (try clear hi)
                          refine hK.out _ _ ⟨(blk_cell BK118.out 0).trans rfl, (blk_cell BK118.out 1).trans rfl, ((HB.out.cell (World.block_lt_of_cell? w _ hw121_0)).trans hw121_0), ((HB.out.cell (World.block_lt_of_cell? w _ hw121_1)).trans hw121_1)⟩ (fun hHeld => ?_)
                          clear hK K
                          refine norm_ (a' := ?_) ?_ ?_
                          rotate_left
                          · show Act.put _ (some 40) _ = _
                            simp only [Act.put, Less.p1, Less.p2, Less.p3, i64_w, i32_w]
                            rfl
                          refine pure_ (i := 29) (N := some 41) (v := ?_) (a' := ?_) (Less.bv 32 1073741823) rfl rfl (any_of HT_.out (by kernel_rfl)) (fun _ _ _ h => h) (Or.inl ⟨by rfl, ?_⟩) ?_ ?_
                          rotate_left
                          · intro w'
                            go_simp
                            with_reducible rfl
                          rotate_left
                          · simp only [Act.put, Less.p1, Less.p2, Less.p3, i64_w, i32_w]
                            rfl
                          refine pure_ (i := 30) (N := some 42) (v := ?_) (a' := ?_) (Less.bv 32 2147483647) rfl rfl (any_of HT_.out (by kernel_rfl)) (fun _ _ _ h => h) (Or.inl ⟨by rfl, ?_⟩) ?_ ?_
                          rotate_left
                          · intro w'
                            go_simp
                            with_reducible rfl
                          rotate_left
                          · simp only [Act.put, Less.p1, Less.p2, Less.p3, i64_w, i32_w]
                            rfl
                          refine pure_ (i := 31) (N := some 43) (v := ?_) (a' := ?_) (Less.bv 32 4294967295) rfl rfl (any_of HT_.out (by kernel_rfl)) (fun _ _ _ h => h) (Or.inl ⟨by rfl, ?_⟩) ?_ ?_
                          rotate_left
                          · intro w'
                            go_simp
                            with_reducible rfl
                          rotate_left
                          · simp only [Act.put, Less.p1, Less.p2, Less.p3, i64_w, i32_w]
                            rfl
                          refine done_ (done_of HT_.out (by kernel_rfl)) ?_
                          try go_wp2
                          go_roundg k1
                          case measure => have := HK1.out; omega
                          case rel => exact ⟨(wrap64 (x7_1 + 1)), (by first | rfl | (simp; done) | (simp [*]; done)), H', ⟨by have := HK1.out; omega⟩, ⟨by repeat (first | (with_reducible first | exact HB.out | apply below_alloc | apply pw_below_drewN | apply below_drew1 | refine below_set ?_ GE118.out) | exact HB.out)⟩⟩
                      · rw [if_neg c17] at H
                        exact absurd H (by simp)
                    · rw [if_neg c16] at H
                      exact absurd H (by simp)
                  · rw [if_neg c14] at H
                    have c14b0 : decide (0 < x7_1) = false := decide_eq_false c14
                    clear c14
                    have H' := Aside0.mk H
                    clear H
                    have p117 : 0 ≤ (x7_1 : Int) := of_decide_eq_true (by first | (with_reducible assumption) | assumption)
                    have q117 : x7_1 < (l0.length : Int) := of_decide_eq_true (by first | (with_reducible assumption) | assumption)
                    obtain ⟨ad117, A117_0, c117_0, A117_1, c117_1, e117, hx117_0, hx117_1, hl117_0, hi117_0, hl117_1, hi117_1⟩ := at_T59 HR0.out x7_1 p117 q117
                    cases e117
                    replace hx117_0 := (HB.out.cell (World.block_lt_of_cell? w _ hx117_0)).trans hx117_0
                    replace hx117_1 := (HB.out.cell (World.block_lt_of_cell? w _ hx117_1)).trans hx117_1
                    have HR117_0 := Aside0.mk hi117_0
                    have HC117_0 := Aside0.mk hl117_0
                    clear hi117_0 hl117_0
                    have HR117_1 := Aside0.mk hi117_1
                    have HC117_1 := Aside0.mk hl117_1
                    clear hi117_1 hl117_1
                    replace p117 := eq_true p117
                    replace q117 := eq_true q117
                    try go_wp2_with (first | ((with_reducible refine gate_dst (N := 4) rfl ?_); refine box_event ?hg (N := 4) ?hd (cs := #[.slice none 0 0, .slice none 0 0]) (t := 59) ?hr ?_; (case hd => rfl); (case hg => rfl); (case hr => first | (go_simp; done) | (go_simp; rfl)); intro gb118 hg w34 hbox hb; have n0_ := Aside0.mk (below_step (by repeat (first | (with_reducible first | exact HB.out | apply below_alloc | apply pw_below_drewN | apply below_drew1) | exact HB.out)) hb); have n1_ := Aside0.mk (hbox); have n2_ := Aside0.mk ((by rw [hg]; exact (below_size (by repeat (first | (with_reducible first | exact HB.out | apply below_alloc | apply pw_below_drewN | apply below_drew1) | exact HB.out))) : w.heap.size ≤ gb118)); have n3_ := Aside0.mk ((by rw [hg]; exact (below_size (by repeat (first | (with_reducible first | exact HB.out | apply below_alloc | apply pw_below_drewN | apply below_drew1) | exact HB.out))) : w.heap.size ≤ gb118)); clear HB; have HB := n0_; have BK118 := n1_; have GW118 := n2_; have GE118 := n3_; clear n0_ n1_ n2_ n3_; clear hb hbox hg; have hcz35_0 : w34.cell? ⟨gb118, 0, none⟩ = some (.slice none 0 0) := (blk_cell BK118.out 0).trans rfl; have hcz35_1 : w34.cell? ⟨gb118, 1, none⟩ = some (.slice none 0 0) := (blk_cell BK118.out 1).trans rfl; have hfz35_0 := blk_frozen BK118.out 0; have hfz35_1 := blk_frozen BK118.out 1))
                    have n0_ : Aside0 (((w34.setCell ⟨gb118, 0, none⟩ (.slice A117_0 ((rd_T59 l0 x7_1).f0).length c117_0)).setCell ⟨gb118, 1, none⟩ (.slice A117_1 ((rd_T59 l0 x7_1).f1).length c117_1)).heap[gb118]? = some (.cells #[.slice A117_0 ((rd_T59 l0 x7_1).f0).length c117_0, .slice A117_1 ((rd_T59 l0 x7_1).f1).length c117_1] 59 (0, 0))) := ⟨by (with_reducible repeat (first | refine blk_drewN ?_ _ | refine blk_drew ?_ | refine blk_alloc ?_ _)); refine blk_put (cs := #[.slice A117_0 ((rd_T59 l0 x7_1).f0).length c117_0, .slice none 0 0]) ?_ 1 _ rfl; (with_reducible repeat (first | refine blk_drewN ?_ _ | refine blk_drew ?_ | refine blk_alloc ?_ _)); refine blk_put (cs := #[.slice none 0 0, .slice none 0 0]) ?_ 0 _ rfl; (with_reducible repeat (first | refine blk_drewN ?_ _ | refine blk_drew ?_ | refine blk_alloc ?_ _)); exact BK118.out⟩
                    have n1_ : Aside0 (Below w.heap.size w ((w34.setCell ⟨gb118, 0, none⟩ (.slice A117_0 ((rd_T59 l0 x7_1).f0).length c117_0)).setCell ⟨gb118, 1, none⟩ (.slice A117_1 ((rd_T59 l0 x7_1).f1).length c117_1))) := ⟨by repeat (first | (with_reducible first | exact HB.out | apply below_alloc | apply pw_below_drewN | apply below_drew1 | refine below_set ?_ GE118.out) | exact HB.out)⟩
                    (try clear BK118)
                    (try clear HB)
                    generalize ((w34.setCell ⟨gb118, 0, none⟩ (.slice A117_0 ((rd_T59 l0 x7_1).f0).length c117_0)).setCell ⟨gb118, 1, none⟩ (.slice A117_1 ((rd_T59 l0 x7_1).f1).length c117_1)) = w36 at n0_ n1_ ⊢
                    have BK118 := n0_
                    have HB := n1_
                    clear n0_ n1_
                    have n0_ := Aside0.mk (blk_drew BK118.out)
                    have n1_ := Aside0.mk (below_drew1 HB.out)
                    clear BK118
                    clear HB
                    have BK118 := n0_
                    have HB := n1_
                    clear n0_ n1_
                    refine start_ (n := 32) (S := fun w' => w'.cell? ⟨gb118, 0, none⟩ = some (.slice A117_0 ((rd_T59 l0 x7_1).f0).length c117_0) ∧ w'.cell? ⟨gb118, 1, none⟩ = some (.slice A117_1 ((rd_T59 l0 x7_1).f1).length c117_1)) (ds := []) #[false, false, false, false, false, false, false, false, false, false, false, false, false, false, false, false, false, false, false, false, false, false, false, false, false, false, false, false, false, false, false, false] (by kernel_rfl) rfl rfl ⟨(blk_cell BK118.out 0).trans rfl, (blk_cell BK118.out 1).trans rfl⟩ (fun hHeld => ?_); refine with_tabW store_Right.tab4 store_Right.bits4 (fun HT_ HW_ => ?_)
                    generalize w36.drew = w37 at BK118 HB hHeld ⊢
                    refine pure_ (i := 0) (N := some 12) (v := ?_) (a' := ?_) (Less.bv 32 1) rfl rfl (any_of HT_.out (by kernel_rfl)) (fun _ _ _ h => h) (Or.inl ⟨by rfl, ?_⟩) ?_ ?_
                    rotate_left
                    · intro w'
                      go_simp
                      with_reducible rfl
                    rotate_left
                    · simp only [Act.put, Less.p1, Less.p2, Less.p3, i64_w, i32_w]
                      rfl
                    refine take_ (i := 1) (N := some 13) (v := ?_) (a' := ?_) (Less.bv 32 3) rfl rfl (take_ofW HT_.out HW_.out (by kernel_rfl)) (fun _ _ _ h => h) (Or.inl ⟨by rfl, ?_⟩) hHeld ?_ ?_
                    rotate_left
                    · rintro w' ⟨s0, s1⟩
                      go_simp
                      with_reducible rfl
                    rotate_left
                    · simp only [Act.put, Less.p1, Less.p2, Less.p3, i64_w, i32_w]
                      rfl
                    refine pure_ (i := 2) (N := some 14) (v := ?_) (a' := ?_) (Less.bv 32 7) rfl rfl (any_of HT_.out (by kernel_rfl)) (fun _ _ _ h => h) (Or.inl ⟨by rfl, ?_⟩) ?_ ?_
                    rotate_left
                    · intro w'
                      go_simp
                      with_reducible rfl
                    rotate_left
                    · simp only [Act.put, Less.p1, Less.p2, Less.p3, i64_w, i32_w]
                      rfl
                    refine pure_ (i := 3) (N := some 15) (v := ?_) (a' := ?_) (Less.bv 32 15) rfl rfl (any_of HT_.out (by kernel_rfl)) (fun _ _ _ h => h) (Or.inl ⟨by rfl, ?_⟩) ?_ ?_
                    rotate_left
                    · intro w'
                      go_simp
                      with_reducible rfl
                    rotate_left
                    · simp only [Act.put, Less.p1, Less.p2, Less.p3, i64_w, i32_w]
                      rfl
                    refine pure_ (i := 4) (N := some 16) (v := ?_) (a' := ?_) (Less.bv 32 31) rfl rfl (any_of HT_.out (by kernel_rfl)) (fun _ _ _ h => h) (Or.inl ⟨by rfl, ?_⟩) ?_ ?_
                    rotate_left
                    · intro w'
                      go_simp
                      with_reducible rfl
                    rotate_left
                    · simp only [Act.put, Less.p1, Less.p2, Less.p3, i64_w, i32_w]
                      rfl
                    refine pure_ (i := 5) (N := some 17) (v := ?_) (a' := ?_) (Less.bv 32 63) rfl rfl (any_of HT_.out (by kernel_rfl)) (fun _ _ _ h => h) (Or.inl ⟨by rfl, ?_⟩) ?_ ?_
                    rotate_left
                    · intro w'
                      go_simp
                      with_reducible rfl
                    rotate_left
                    · simp only [Act.put, Less.p1, Less.p2, Less.p3, i64_w, i32_w]
                      rfl
                    refine take_ (i := 6) (N := some 18) (v := ?_) (a' := ?_) (Less.bv 32 127) rfl rfl (take_ofW HT_.out HW_.out (by kernel_rfl)) (fun _ _ _ h => h) (Or.inl ⟨by rfl, ?_⟩) hHeld ?_ ?_
                    rotate_left
                    · rintro w' ⟨s0, s1⟩
                      go_simp
                      with_reducible rfl
                    rotate_left
                    · simp only [Act.put, Less.p1, Less.p2, Less.p3, i64_w, i32_w]
                      rfl
                    refine one_ (i := 7) (N := some 19) (Less.bv 32 255) rfl rfl (one_of HT_.out (by kernel_rfl)) (by decide) (fun K hK => ?_)
                    refine goes_ Tryd.func67 (by kernel_rfl) rfl #[.slice A117_0 ((rd_T59 l0 x7_1).f0).length c117_0] (by rfl) rfl rfl (by (try simp only [List.map_toArray, List.map_cons, List.map_nil]); first | done | rfl | (simp only [List.length_drop, List.length_take]; rfl)) ?_
                    with_reducible refine (label_Right.calls k1 _ _ ((rd_T59 l0 x7_1).f0) true _ ?side1 ?side2 ?hGL A10.out).mono ?_
                    case hGL => exact GL.below HG.out (by repeat (first | (with_reducible first | exact HB.out | apply below_alloc | apply pw_below_drewN | apply below_drew1) | exact HB.out))
                    (case side1 => repeat (first | exact (Kd.C_below HR117_0.out HB.out) | (with_reducible refine Kd.C_alloc ?_ _) | (with_reducible refine Kd.C_drewN ?_ _) | (with_reducible refine Kd.C_drew ?_)))
                    (case side2 => exact HC117_0.out)
                    rintro e w38 ⟨rfl, hb⟩
                    refine ⟨_, rfl, ?_⟩
                    have n0_ := Aside0.mk (blk_below (g := gb118) (o := .cells #[.slice A117_0 ((rd_T59 l0 x7_1).f0).length c117_0, .slice A117_1 ((rd_T59 l0 x7_1).f1).length c117_1] 59 (0, 0)) (by (with_reducible repeat (first | refine blk_drewN ?_ _ | refine blk_drew ?_ | refine blk_alloc ?_ _)); exact BK118.out) hb)
                    have n1_ := Aside0.mk (below_step (by repeat (first | (with_reducible first | exact HB.out | apply below_alloc | apply pw_below_drewN | apply below_drew1 | refine below_set ?_ GE118.out) | exact HB.out)) hb)
                    clear BK118
                    clear HB
                    have BK118 := n0_
                    have HB := n1_
                    clear n0_ n1_
                    (try clear hb)
                    (try clear hb2)
                    (try clear hk)
                    (try clear hi)
                    refine hK.out _ _ ⟨(blk_cell BK118.out 0).trans rfl, (blk_cell BK118.out 1).trans rfl⟩ (fun hHeld => ?_)
                    clear hK K
                    refine norm_ (a' := ?_) ?_ ?_
                    rotate_left
                    · show Act.put _ (some 19) _ = _
                      simp only [Act.put, Less.p1, Less.p2, Less.p3, i64_w, i32_w]
                      rfl
                    refine pure_ (i := 8) (N := some 20) (v := ?_) (a' := ?_) (Less.bv 32 511) rfl rfl (any_of HT_.out (by kernel_rfl)) (fun _ _ _ h => h) (Or.inl ⟨by rfl, ?_⟩) ?_ ?_
                    rotate_left
                    · intro w'
                      go_simp
                      with_reducible rfl
                    rotate_left
                    · simp only [Act.put, Less.p1, Less.p2, Less.p3, i64_w, i32_w]
                      rfl
                    refine pure_ (i := 9) (N := some 21) (v := ?_) (a' := ?_) (Less.bv 32 1023) rfl rfl (any_of HT_.out (by kernel_rfl)) (fun _ _ _ h => h) (Or.inl ⟨by rfl, ?_⟩) ?_ ?_
                    rotate_left
                    · intro w'
                      go_simp
                      with_reducible rfl
                    rotate_left
                    · simp only [Act.put, Less.p1, Less.p2, Less.p3, i64_w, i32_w]
                      rfl
                    refine pure_ (i := 10) (N := some 22) (v := ?_) (a' := ?_) (Less.bv 32 2047) rfl rfl (any_of HT_.out (by kernel_rfl)) (fun _ _ _ h => h) (Or.inl ⟨by rfl, ?_⟩) ?_ ?_
                    rotate_left
                    · intro w'
                      go_simp
                      with_reducible rfl
                    rotate_left
                    · simp only [Act.put, Less.p1, Less.p2, Less.p3, i64_w, i32_w]
                      rfl
                    refine pure_ (i := 11) (N := some 23) (v := ?_) (a' := ?_) (Less.bv 32 4095) rfl rfl (any_of HT_.out (by kernel_rfl)) (fun _ _ _ h => h) (Or.inl ⟨by rfl, ?_⟩) ?_ ?_
                    rotate_left
                    · intro w'
                      go_simp
                      with_reducible rfl
                    rotate_left
                    · simp only [Act.put, Less.p1, Less.p2, Less.p3, i64_w, i32_w]
                      rfl
                    refine take_ (i := 12) (N := some 24) (v := ?_) (a' := ?_) (Less.bv 32 8191) rfl rfl (take_ofW HT_.out HW_.out (by kernel_rfl)) (fun _ _ _ h => h) (Or.inl ⟨by rfl, ?_⟩) hHeld ?_ ?_
                    rotate_left
                    · rintro w' ⟨s0, s1⟩
                      go_simp
                      with_reducible rfl
                    rotate_left
                    · simp only [Act.put, Less.p1, Less.p2, Less.p3, i64_w, i32_w]
                      rfl
                    refine one_ (i := 13) (N := some 25) (Less.bv 32 16383) rfl rfl (one_of HT_.out (by kernel_rfl)) (by decide) (fun K hK => ?_)
                    refine goes_ Tryd.func68 (by kernel_rfl) rfl #[.slice A117_1 ((rd_T59 l0 x7_1).f1).length c117_1] (by rfl) rfl rfl (by (try simp only [List.map_toArray, List.map_cons, List.map_nil]); first | done | rfl | (simp only [List.length_drop, List.length_take]; rfl)) ?_
                    with_reducible refine (store_points.calls k1 _ _ ((rd_T59 l0 x7_1).f1) true _ ?side1 ?side2 A12.out).mono ?_
                    (case side1 => repeat (first | exact (Kd.C_below HR117_1.out HB.out) | (with_reducible refine Kd.C_alloc ?_ _) | (with_reducible refine Kd.C_drewN ?_ _) | (with_reducible refine Kd.C_drew ?_)))
                    (case side2 => exact HC117_1.out)
                    rintro e w39 ⟨rfl, hb⟩
                    refine ⟨_, rfl, ?_⟩
                    have n0_ := Aside0.mk (blk_below (g := gb118) (o := .cells #[.slice A117_0 ((rd_T59 l0 x7_1).f0).length c117_0, .slice A117_1 ((rd_T59 l0 x7_1).f1).length c117_1] 59 (0, 0)) (by (with_reducible repeat (first | refine blk_drewN ?_ _ | refine blk_drew ?_ | refine blk_alloc ?_ _)); exact BK118.out) hb)
                    have n1_ := Aside0.mk (below_step (by repeat (first | (with_reducible first | exact HB.out | apply below_alloc | apply pw_below_drewN | apply below_drew1 | refine below_set ?_ GE118.out) | exact HB.out)) hb)
                    clear BK118
                    clear HB
                    have BK118 := n0_
                    have HB := n1_
                    clear n0_ n1_
                    (try clear hb)
                    (try clear hb2)
                    (try clear hk)
                    (try clear hi)
                    refine hK.out _ _ ⟨(blk_cell BK118.out 0).trans rfl, (blk_cell BK118.out 1).trans rfl⟩ (fun hHeld => ?_)
                    clear hK K
                    refine norm_ (a' := ?_) ?_ ?_
                    rotate_left
                    · show Act.put _ (some 25) _ = _
                      simp only [Act.put, Less.p1, Less.p2, Less.p3, i64_w, i32_w]
                      rfl
                    refine pure_ (i := 14) (N := some 26) (v := ?_) (a' := ?_) (Less.bv 32 32767) rfl rfl (any_of HT_.out (by kernel_rfl)) (fun _ _ _ h => h) (Or.inl ⟨by rfl, ?_⟩) ?_ ?_
                    rotate_left
                    · intro w'
                      go_simp
                      with_reducible rfl
                    rotate_left
                    · simp only [Act.put, Less.p1, Less.p2, Less.p3, i64_w, i32_w]
                      rfl
                    refine pure_ (i := 15) (N := some 27) (v := ?_) (a' := ?_) (Less.bv 32 65535) rfl rfl (any_of HT_.out (by kernel_rfl)) (fun _ _ _ h => h) (Or.inl ⟨by rfl, ?_⟩) ?_ ?_
                    rotate_left
                    · intro w'
                      go_simp
                      with_reducible rfl
                    rotate_left
                    · simp only [Act.put, Less.p1, Less.p2, Less.p3, i64_w, i32_w]
                      rfl
                    refine pure_ (i := 16) (N := some 28) (v := ?_) (a' := ?_) (Less.bv 32 131071) rfl rfl (any_of HT_.out (by kernel_rfl)) (fun _ _ _ h => h) (Or.inl ⟨by rfl, ?_⟩) ?_ ?_
                    rotate_left
                    · intro w'
                      go_simp
                      with_reducible rfl
                    rotate_left
                    · simp only [Act.put, Less.p1, Less.p2, Less.p3, i64_w, i32_w]
                      rfl
                    refine pure_ (i := 17) (N := some 29) (v := ?_) (a' := ?_) (Less.bv 32 262143) rfl rfl (any_of HT_.out (by kernel_rfl)) (fun _ _ _ h => h) (Or.inl ⟨by rfl, ?_⟩) ?_ ?_
                    rotate_left
                    · intro w'
                      go_simp
                      with_reducible rfl
                    rotate_left
                    · simp only [Act.put, Less.p1, Less.p2, Less.p3, i64_w, i32_w]
                      rfl
                    refine pure_ (i := 18) (N := some 30) (v := ?_) (a' := ?_) (Less.bv 32 524287) rfl rfl (any_of HT_.out (by kernel_rfl)) (fun _ _ _ h => h) (Or.inl ⟨by rfl, ?_⟩) ?_ ?_
                    rotate_left
                    · intro w'
                      go_simp
                      with_reducible rfl
                    rotate_left
                    · simp only [Act.put, Less.p1, Less.p2, Less.p3, i64_w, i32_w]
                      rfl
                    refine pure_ (i := 19) (N := some 31) (v := ?_) (a' := ?_) (Less.bv 32 1048575) rfl rfl (any_of HT_.out (by kernel_rfl)) (fun _ _ _ h => h) (Or.inl ⟨by rfl, ?_⟩) ?_ ?_
                    rotate_left
                    · intro w'
                      go_simp
                      with_reducible rfl
                    rotate_left
                    · simp only [Act.put, Less.p1, Less.p2, Less.p3, i64_w, i32_w]
                      rfl
                    refine pure_ (i := 20) (N := some 32) (v := undef) (a' := ?_) (Less.bv 32 2097151) rfl rfl (any_of HT_.out (by kernel_rfl)) (fun _ _ _ h => h) (Or.inr ⟨by rfl, rfl⟩) ?_ ?_
                    rotate_left
                    · simp only [Act.put, Less.p1, Less.p2, Less.p3, i64_w, i32_w]
                      rfl
                    refine pure_ (i := 21) (N := some 33) (v := undef) (a' := ?_) (Less.bv 32 4194303) rfl rfl (any_of HT_.out (by kernel_rfl)) (fun _ _ _ h => h) (Or.inr ⟨by rfl, rfl⟩) ?_ ?_
                    rotate_left
                    · simp only [Act.put, Less.p1, Less.p2, Less.p3, i64_w, i32_w]
                      rfl
                    refine pure_ (i := 22) (N := some 34) (v := undef) (a' := ?_) (Less.bv 32 8388607) rfl rfl (any_of HT_.out (by kernel_rfl)) (fun _ _ _ h => h) (Or.inr ⟨by rfl, rfl⟩) ?_ ?_
                    rotate_left
                    · simp only [Act.put, Less.p1, Less.p2, Less.p3, i64_w, i32_w]
                      rfl
                    refine pure_ (i := 23) (N := some 35) (v := undef) (a' := ?_) (Less.bv 32 16777215) rfl rfl (any_of HT_.out (by kernel_rfl)) (fun _ _ _ h => h) (Or.inr ⟨by rfl, rfl⟩) ?_ ?_
                    rotate_left
                    · simp only [Act.put, Less.p1, Less.p2, Less.p3, i64_w, i32_w]
                      rfl
                    refine pure_ (i := 24) (N := some 36) (v := undef) (a' := ?_) (Less.bv 32 33554431) rfl rfl (any_of HT_.out (by kernel_rfl)) (fun _ _ _ h => h) (Or.inr ⟨by rfl, rfl⟩) ?_ ?_
                    rotate_left
                    · simp only [Act.put, Less.p1, Less.p2, Less.p3, i64_w, i32_w]
                      rfl
                    refine pure_ (i := 25) (N := some 37) (v := undef) (a' := ?_) (Less.bv 32 67108863) rfl rfl (any_of HT_.out (by kernel_rfl)) (fun _ _ _ h => h) (Or.inr ⟨by rfl, rfl⟩) ?_ ?_
                    rotate_left
                    · simp only [Act.put, Less.p1, Less.p2, Less.p3, i64_w, i32_w]
                      rfl
                    refine pure_ (i := 26) (N := some 38) (v := undef) (a' := ?_) (Less.bv 32 134217727) rfl rfl (any_of HT_.out (by kernel_rfl)) (fun _ _ _ h => h) (Or.inr ⟨by rfl, rfl⟩) ?_ ?_
                    rotate_left
                    · simp only [Act.put, Less.p1, Less.p2, Less.p3, i64_w, i32_w]
                      rfl
                    refine pure_ (i := 27) (N := some 39) (v := undef) (a' := ?_) (Less.bv 32 268435455) rfl rfl (any_of HT_.out (by kernel_rfl)) (fun _ _ _ h => h) (Or.inr ⟨by rfl, rfl⟩) ?_ ?_
                    rotate_left
                    · simp only [Act.put, Less.p1, Less.p2, Less.p3, i64_w, i32_w]
                      rfl
                    refine pure_ (i := 28) (N := some 40) (v := undef) (a' := ?_) (Less.bv 32 536870911) rfl rfl (any_of HT_.out (by kernel_rfl)) (fun _ _ _ h => h) (Or.inr ⟨by rfl, rfl⟩) ?_ ?_
                    rotate_left
                    · simp only [Act.put, Less.p1, Less.p2, Less.p3, i64_w, i32_w]
                      rfl
                    refine pure_ (i := 29) (N := some 41) (v := undef) (a' := ?_) (Less.bv 32 1073741823) rfl rfl (any_of HT_.out (by kernel_rfl)) (fun _ _ _ h => h) (Or.inr ⟨by rfl, rfl⟩) ?_ ?_
                    rotate_left
                    · simp only [Act.put, Less.p1, Less.p2, Less.p3, i64_w, i32_w]
                      rfl
                    refine pure_ (i := 30) (N := some 42) (v := ?_) (a' := ?_) (Less.bv 32 2147483647) rfl rfl (any_of HT_.out (by kernel_rfl)) (fun _ _ _ h => h) (Or.inl ⟨by rfl, ?_⟩) ?_ ?_
                    rotate_left
                    · intro w'
                      go_simp
                      with_reducible rfl
                    rotate_left
                    · simp only [Act.put, Less.p1, Less.p2, Less.p3, i64_w, i32_w]
                      rfl
                    refine pure_ (i := 31) (N := some 43) (v := ?_) (a' := ?_) (Less.bv 32 4294967295) rfl rfl (any_of HT_.out (by kernel_rfl)) (fun _ _ _ h => h) (Or.inl ⟨by rfl, ?_⟩) ?_ ?_
                    rotate_left
                    · intro w'
                      go_simp
                      with_reducible rfl
                    rotate_left
                    · simp only [Act.put, Less.p1, Less.p2, Less.p3, i64_w, i32_w]
                      rfl
                    refine done_ (done_of HT_.out (by kernel_rfl)) ?_
                    try go_wp2
                    go_roundg k1
                    case measure => have := HK1.out; omega
                    case rel => exact ⟨(wrap64 (x7_1 + 1)), (by first | rfl | (simp; done) | (simp [*]; done)), H', ⟨by have := HK1.out; omega⟩, ⟨by repeat (first | (with_reducible first | exact HB.out | apply below_alloc | apply pw_below_drewN | apply below_drew1 | refine below_set ?_ GE118.out) | exact HB.out)⟩⟩
                · replace c13 := Bool.eq_false_iff.mpr c13
                  subst c13
                  have H1 : (some false) = some r := by rw [if_neg (show ¬ (false = true) by decide)] at H; exact H
                  clear H
                  have H := H1
                  clear H1
                  obtain rfl := Option.some.inj H
                  have p117 : 0 ≤ (x7_1 : Int) := of_decide_eq_true (by first | (with_reducible assumption) | assumption)
                  have q117 : x7_1 < (l0.length : Int) := of_decide_eq_true (by first | (with_reducible assumption) | assumption)
                  obtain ⟨ad117, A117_0, c117_0, A117_1, c117_1, e117, hx117_0, hx117_1, hl117_0, hi117_0, hl117_1, hi117_1⟩ := at_T59 HR0.out x7_1 p117 q117
                  cases e117
                  replace hx117_0 := (HB.out.cell (World.block_lt_of_cell? w _ hx117_0)).trans hx117_0
                  replace hx117_1 := (HB.out.cell (World.block_lt_of_cell? w _ hx117_1)).trans hx117_1
                  have HR117_0 := Aside0.mk hi117_0
                  have HC117_0 := Aside0.mk hl117_0
                  clear hi117_0 hl117_0
                  have HR117_1 := Aside0.mk hi117_1
                  have HC117_1 := Aside0.mk hl117_1
                  clear hi117_1 hl117_1
                  replace p117 := eq_true p117
                  replace q117 := eq_true q117
                  try go_wp2_with (first | ((with_reducible refine gate_dst (N := 4) rfl ?_); refine box_event ?hg (N := 4) ?hd (cs := #[.slice none 0 0, .slice none 0 0]) (t := 59) ?hr ?_; (case hd => rfl); (case hg => rfl); (case hr => first | (go_simp; done) | (go_simp; rfl)); intro gb118 hg w40 hbox hb; have n0_ := Aside0.mk (below_step (by repeat (first | (with_reducible first | exact HB.out | apply below_alloc | apply pw_below_drewN | apply below_drew1) | exact HB.out)) hb); have n1_ := Aside0.mk (hbox); have n2_ := Aside0.mk ((by rw [hg]; exact (below_size (by repeat (first | (with_reducible first | exact HB.out | apply below_alloc | apply pw_below_drewN | apply below_drew1) | exact HB.out))) : w.heap.size ≤ gb118)); have n3_ := Aside0.mk ((by rw [hg]; exact (below_size (by repeat (first | (with_reducible first | exact HB.out | apply below_alloc | apply pw_below_drewN | apply below_drew1) | exact HB.out))) : w.heap.size ≤ gb118)); clear HB; have HB := n0_; have BK118 := n1_; have GW118 := n2_; have GE118 := n3_; clear n0_ n1_ n2_ n3_; clear hb hbox hg; have hcz41_0 : w40.cell? ⟨gb118, 0, none⟩ = some (.slice none 0 0) := (blk_cell BK118.out 0).trans rfl; have hcz41_1 : w40.cell? ⟨gb118, 1, none⟩ = some (.slice none 0 0) := (blk_cell BK118.out 1).trans rfl; have hfz41_0 := blk_frozen BK118.out 0; have hfz41_1 := blk_frozen BK118.out 1))
                  have n0_ : Aside0 (((w40.setCell ⟨gb118, 0, none⟩ (.slice A117_0 ((rd_T59 l0 x7_1).f0).length c117_0)).setCell ⟨gb118, 1, none⟩ (.slice A117_1 ((rd_T59 l0 x7_1).f1).length c117_1)).heap[gb118]? = some (.cells #[.slice A117_0 ((rd_T59 l0 x7_1).f0).length c117_0, .slice A117_1 ((rd_T59 l0 x7_1).f1).length c117_1] 59 (0, 0))) := ⟨by (with_reducible repeat (first | refine blk_drewN ?_ _ | refine blk_drew ?_ | refine blk_alloc ?_ _)); refine blk_put (cs := #[.slice A117_0 ((rd_T59 l0 x7_1).f0).length c117_0, .slice none 0 0]) ?_ 1 _ rfl; (with_reducible repeat (first | refine blk_drewN ?_ _ | refine blk_drew ?_ | refine blk_alloc ?_ _)); refine blk_put (cs := #[.slice none 0 0, .slice none 0 0]) ?_ 0 _ rfl; (with_reducible repeat (first | refine blk_drewN ?_ _ | refine blk_drew ?_ | refine blk_alloc ?_ _)); exact BK118.out⟩
                  have n1_ : Aside0 (Below w.heap.size w ((w40.setCell ⟨gb118, 0, none⟩ (.slice A117_0 ((rd_T59 l0 x7_1).f0).length c117_0)).setCell ⟨gb118, 1, none⟩ (.slice A117_1 ((rd_T59 l0 x7_1).f1).length c117_1))) := ⟨by repeat (first | (with_reducible first | exact HB.out | apply below_alloc | apply pw_below_drewN | apply below_drew1 | refine below_set ?_ GE118.out) | exact HB.out)⟩
                  (try clear BK118)
                  (try clear HB)
                  generalize ((w40.setCell ⟨gb118, 0, none⟩ (.slice A117_0 ((rd_T59 l0 x7_1).f0).length c117_0)).setCell ⟨gb118, 1, none⟩ (.slice A117_1 ((rd_T59 l0 x7_1).f1).length c117_1)) = w42 at n0_ n1_ ⊢
                  have BK118 := n0_
                  have HB := n1_
                  clear n0_ n1_
                  have n0_ := Aside0.mk (blk_drew BK118.out)
                  have n1_ := Aside0.mk (below_drew1 HB.out)
                  clear BK118
                  clear HB
                  have BK118 := n0_
                  have HB := n1_
                  clear n0_ n1_
                  refine start_ (n := 32) (S := fun w' => w'.cell? ⟨gb118, 0, none⟩ = some (.slice A117_0 ((rd_T59 l0 x7_1).f0).length c117_0) ∧ w'.cell? ⟨gb118, 1, none⟩ = some (.slice A117_1 ((rd_T59 l0 x7_1).f1).length c117_1)) (ds := []) #[false, false, false, false, false, false, false, false, false, false, false, false, false, false, false, false, false, false, false, false, false, false, false, false, false, false, false, false, false, false, false, false] (by kernel_rfl) rfl rfl ⟨(blk_cell BK118.out 0).trans rfl, (blk_cell BK118.out 1).trans rfl⟩ (fun hHeld => ?_); refine with_tabW store_Right.tab4 store_Right.bits4 (fun HT_ HW_ => ?_)
                  generalize w42.drew = w43 at BK118 HB hHeld ⊢
                  refine pure_ (i := 0) (N := some 12) (v := ?_) (a' := ?_) (Less.bv 32 1) rfl rfl (any_of HT_.out (by kernel_rfl)) (fun _ _ _ h => h) (Or.inl ⟨by rfl, ?_⟩) ?_ ?_
                  rotate_left
                  · intro w'
                    go_simp
                    with_reducible rfl
                  rotate_left
                  · simp only [Act.put, Less.p1, Less.p2, Less.p3, i64_w, i32_w]
                    rfl
                  refine take_ (i := 1) (N := some 13) (v := ?_) (a' := ?_) (Less.bv 32 3) rfl rfl (take_ofW HT_.out HW_.out (by kernel_rfl)) (fun _ _ _ h => h) (Or.inl ⟨by rfl, ?_⟩) hHeld ?_ ?_
                  rotate_left
                  · rintro w' ⟨s0, s1⟩
                    go_simp
                    with_reducible rfl
                  rotate_left
                  · simp only [Act.put, Less.p1, Less.p2, Less.p3, i64_w, i32_w]
                    rfl
                  refine pure_ (i := 2) (N := some 14) (v := ?_) (a' := ?_) (Less.bv 32 7) rfl rfl (any_of HT_.out (by kernel_rfl)) (fun _ _ _ h => h) (Or.inl ⟨by rfl, ?_⟩) ?_ ?_
                  rotate_left
                  · intro w'
                    go_simp
                    with_reducible rfl
                  rotate_left
                  · simp only [Act.put, Less.p1, Less.p2, Less.p3, i64_w, i32_w]
                    rfl
                  refine pure_ (i := 3) (N := some 15) (v := ?_) (a' := ?_) (Less.bv 32 15) rfl rfl (any_of HT_.out (by kernel_rfl)) (fun _ _ _ h => h) (Or.inl ⟨by rfl, ?_⟩) ?_ ?_
                  rotate_left
                  · intro w'
                    go_simp
                    with_reducible rfl
                  rotate_left
                  · simp only [Act.put, Less.p1, Less.p2, Less.p3, i64_w, i32_w]
                    rfl
                  refine pure_ (i := 4) (N := some 16) (v := ?_) (a' := ?_) (Less.bv 32 31) rfl rfl (any_of HT_.out (by kernel_rfl)) (fun _ _ _ h => h) (Or.inl ⟨by rfl, ?_⟩) ?_ ?_
                  rotate_left
                  · intro w'
                    go_simp
                    with_reducible rfl
                  rotate_left
                  · simp only [Act.put, Less.p1, Less.p2, Less.p3, i64_w, i32_w]
                    rfl
                  refine pure_ (i := 5) (N := some 17) (v := ?_) (a' := ?_) (Less.bv 32 63) rfl rfl (any_of HT_.out (by kernel_rfl)) (fun _ _ _ h => h) (Or.inl ⟨by rfl, ?_⟩) ?_ ?_
                  rotate_left
                  · intro w'
                    go_simp
                    with_reducible rfl
                  rotate_left
                  · simp only [Act.put, Less.p1, Less.p2, Less.p3, i64_w, i32_w]
                    rfl
                  refine take_ (i := 6) (N := some 18) (v := ?_) (a' := ?_) (Less.bv 32 127) rfl rfl (take_ofW HT_.out HW_.out (by kernel_rfl)) (fun _ _ _ h => h) (Or.inl ⟨by rfl, ?_⟩) hHeld ?_ ?_
                  rotate_left
                  · rintro w' ⟨s0, s1⟩
                    go_simp
                    with_reducible rfl
                  rotate_left
                  · simp only [Act.put, Less.p1, Less.p2, Less.p3, i64_w, i32_w]
                    rfl
                  refine one_ (i := 7) (N := some 19) (Less.bv 32 255) rfl rfl (one_of HT_.out (by kernel_rfl)) (by decide) (fun K hK => ?_)
                  refine goes_ Tryd.func67 (by kernel_rfl) rfl #[.slice A117_0 ((rd_T59 l0 x7_1).f0).length c117_0] (by rfl) rfl rfl (by (try simp only [List.map_toArray, List.map_cons, List.map_nil]); first | done | rfl | (simp only [List.length_drop, List.length_take]; rfl)) ?_
                  with_reducible refine (label_Right.calls k1 _ _ ((rd_T59 l0 x7_1).f0) true _ ?side1 ?side2 ?hGL A10.out).mono ?_
                  case hGL => exact GL.below HG.out (by repeat (first | (with_reducible first | exact HB.out | apply below_alloc | apply pw_below_drewN | apply below_drew1) | exact HB.out))
                  (case side1 => repeat (first | exact (Kd.C_below HR117_0.out HB.out) | (with_reducible refine Kd.C_alloc ?_ _) | (with_reducible refine Kd.C_drewN ?_ _) | (with_reducible refine Kd.C_drew ?_)))
                  (case side2 => exact HC117_0.out)
                  rintro e w44 ⟨rfl, hb⟩
                  refine ⟨_, rfl, ?_⟩
                  have n0_ := Aside0.mk (blk_below (g := gb118) (o := .cells #[.slice A117_0 ((rd_T59 l0 x7_1).f0).length c117_0, .slice A117_1 ((rd_T59 l0 x7_1).f1).length c117_1] 59 (0, 0)) (by (with_reducible repeat (first | refine blk_drewN ?_ _ | refine blk_drew ?_ | refine blk_alloc ?_ _)); exact BK118.out) hb)
                  have n1_ := Aside0.mk (below_step (by repeat (first | (with_reducible first | exact HB.out | apply below_alloc | apply pw_below_drewN | apply below_drew1 | refine below_set ?_ GE118.out) | exact HB.out)) hb)
                  clear BK118
                  clear HB
                  have BK118 := n0_
                  have HB := n1_
                  clear n0_ n1_
                  (try clear hb)
                  (try clear hb2)
                  (try clear hk)
                  (try clear hi)
                  refine hK.out _ _ ⟨(blk_cell BK118.out 0).trans rfl, (blk_cell BK118.out 1).trans rfl⟩ (fun hHeld => ?_)
                  clear hK K
                  refine norm_ (a' := ?_) ?_ ?_
                  rotate_left
                  · show Act.put _ (some 19) _ = _
                    simp only [Act.put, Less.p1, Less.p2, Less.p3, i64_w, i32_w]
                    rfl
                  refine pure_ (i := 8) (N := some 20) (v := ?_) (a' := ?_) (Less.bv 32 511) rfl rfl (any_of HT_.out (by kernel_rfl)) (fun _ _ _ h => h) (Or.inl ⟨by rfl, ?_⟩) ?_ ?_
                  rotate_left
                  · intro w'
                    go_simp
                    with_reducible rfl
                  rotate_left
                  · simp only [Act.put, Less.p1, Less.p2, Less.p3, i64_w, i32_w]
                    rfl
                  refine pure_ (i := 9) (N := some 21) (v := ?_) (a' := ?_) (Less.bv 32 1023) rfl rfl (any_of HT_.out (by kernel_rfl)) (fun _ _ _ h => h) (Or.inl ⟨by rfl, ?_⟩) ?_ ?_
                  rotate_left
                  · intro w'
                    go_simp
                    with_reducible rfl
                  rotate_left
                  · simp only [Act.put, Less.p1, Less.p2, Less.p3, i64_w, i32_w]
                    rfl
                  refine pure_ (i := 10) (N := some 22) (v := ?_) (a' := ?_) (Less.bv 32 2047) rfl rfl (any_of HT_.out (by kernel_rfl)) (fun _ _ _ h => h) (Or.inl ⟨by rfl, ?_⟩) ?_ ?_
                  rotate_left
                  · intro w'
                    go_simp
                    with_reducible rfl
                  rotate_left
                  · simp only [Act.put, Less.p1, Less.p2, Less.p3, i64_w, i32_w]
                    rfl
                  refine pure_ (i := 11) (N := some 23) (v := ?_) (a' := ?_) (Less.bv 32 4095) rfl rfl (any_of HT_.out (by kernel_rfl)) (fun _ _ _ h => h) (Or.inl ⟨by rfl, ?_⟩) ?_ ?_
                  rotate_left
                  · intro w'
                    go_simp
                    with_reducible rfl
                  rotate_left
                  · simp only [Act.put, Less.p1, Less.p2, Less.p3, i64_w, i32_w]
                    rfl
                  refine take_ (i := 12) (N := some 24) (v := ?_) (a' := ?_) (Less.bv 32 8191) rfl rfl (take_ofW HT_.out HW_.out (by kernel_rfl)) (fun _ _ _ h => h) (Or.inl ⟨by rfl, ?_⟩) hHeld ?_ ?_
                  rotate_left
                  · rintro w' ⟨s0, s1⟩
                    go_simp
                    with_reducible rfl
                  rotate_left
                  · simp only [Act.put, Less.p1, Less.p2, Less.p3, i64_w, i32_w]
                    rfl
                  refine one_ (i := 13) (N := some 25) (Less.bv 32 16383) rfl rfl (one_of HT_.out (by kernel_rfl)) (by decide) (fun K hK => ?_)
                  refine goes_ Tryd.func68 (by kernel_rfl) rfl #[.slice A117_1 ((rd_T59 l0 x7_1).f1).length c117_1] (by rfl) rfl rfl (by (try simp only [List.map_toArray, List.map_cons, List.map_nil]); first | done | rfl | (simp only [List.length_drop, List.length_take]; rfl)) ?_
                  with_reducible refine (store_points.calls k1 _ _ ((rd_T59 l0 x7_1).f1) false _ ?side1 ?side2 A12.out).mono ?_
                  (case side1 => repeat (first | exact (Kd.C_below HR117_1.out HB.out) | (with_reducible refine Kd.C_alloc ?_ _) | (with_reducible refine Kd.C_drewN ?_ _) | (with_reducible refine Kd.C_drew ?_)))
                  (case side2 => exact HC117_1.out)
                  rintro e w45 ⟨rfl, hb⟩
                  refine ⟨_, rfl, ?_⟩
                  have n0_ := Aside0.mk (blk_below (g := gb118) (o := .cells #[.slice A117_0 ((rd_T59 l0 x7_1).f0).length c117_0, .slice A117_1 ((rd_T59 l0 x7_1).f1).length c117_1] 59 (0, 0)) (by (with_reducible repeat (first | refine blk_drewN ?_ _ | refine blk_drew ?_ | refine blk_alloc ?_ _)); exact BK118.out) hb)
                  have n1_ := Aside0.mk (below_step (by repeat (first | (with_reducible first | exact HB.out | apply below_alloc | apply pw_below_drewN | apply below_drew1 | refine below_set ?_ GE118.out) | exact HB.out)) hb)
                  clear BK118
                  clear HB
                  have BK118 := n0_
                  have HB := n1_
                  clear n0_ n1_
                  (try clear hb)
                  (try clear hb2)
                  (try clear hk)
                  (try clear hi)
                  refine hK.out _ _ ⟨(blk_cell BK118.out 0).trans rfl, (blk_cell BK118.out 1).trans rfl⟩ (fun hHeld => ?_)
                  clear hK K
                  refine norm_ (a' := ?_) ?_ ?_
                  rotate_left
                  · show Act.put _ (some 25) _ = _
                    simp only [Act.put, Less.p1, Less.p2, Less.p3, i64_w, i32_w]
                    rfl
                  refine pure_ (i := 14) (N := some 26) (v := ?_) (a' := ?_) (Less.bv 32 32767) rfl rfl (any_of HT_.out (by kernel_rfl)) (fun _ _ _ h => h) (Or.inl ⟨by rfl, ?_⟩) ?_ ?_
                  rotate_left
                  · intro w'
                    go_simp
                    with_reducible rfl
                  rotate_left
                  · simp only [Act.put, Less.p1, Less.p2, Less.p3, i64_w, i32_w]
                    rfl
                  refine pure_ (i := 15) (N := some 27) (v := ?_) (a' := ?_) (Less.bv 32 65535) rfl rfl (any_of HT_.out (by kernel_rfl)) (fun _ _ _ h => h) (Or.inl ⟨by rfl, ?_⟩) ?_ ?_
                  rotate_left
                  · intro w'
                    go_simp
                    with_reducible rfl
                  rotate_left
                  · simp only [Act.put, Less.p1, Less.p2, Less.p3, i64_w, i32_w]
                    rfl
                  refine pure_ (i := 16) (N := some 28) (v := ?_) (a' := ?_) (Less.bv 32 131071) rfl rfl (any_of HT_.out (by kernel_rfl)) (fun _ _ _ h => h) (Or.inl ⟨by rfl, ?_⟩) ?_ ?_
                  rotate_left
                  · intro w'
                    go_simp
                    with_reducible rfl
                  rotate_left
                  · simp only [Act.put, Less.p1, Less.p2, Less.p3, i64_w, i32_w]
                    rfl
                  refine pure_ (i := 17) (N := some 29) (v := undef) (a' := ?_) (Less.bv 32 262143) rfl rfl (any_of HT_.out (by kernel_rfl)) (fun _ _ _ h => h) (Or.inr ⟨by rfl, rfl⟩) ?_ ?_
                  rotate_left
                  · simp only [Act.put, Less.p1, Less.p2, Less.p3, i64_w, i32_w]
                    rfl
                  refine pure_ (i := 18) (N := some 30) (v := undef) (a' := ?_) (Less.bv 32 524287) rfl rfl (any_of HT_.out (by kernel_rfl)) (fun _ _ _ h => h) (Or.inr ⟨by rfl, rfl⟩) ?_ ?_
                  rotate_left
                  · simp only [Act.put, Less.p1, Less.p2, Less.p3, i64_w, i32_w]
                    rfl
                  refine pure_ (i := 19) (N := some 31) (v := undef) (a' := ?_) (Less.bv 32 1048575) rfl rfl (any_of HT_.out (by kernel_rfl)) (fun _ _ _ h => h) (Or.inr ⟨by rfl, rfl⟩) ?_ ?_
                  rotate_left
                  · simp only [Act.put, Less.p1, Less.p2, Less.p3, i64_w, i32_w]
                    rfl
                  refine pure_ (i := 20) (N := some 32) (v := undef) (a' := ?_) (Less.bv 32 2097151) rfl rfl (any_of HT_.out (by kernel_rfl)) (fun _ _ _ h => h) (Or.inr ⟨by rfl, rfl⟩) ?_ ?_
                  rotate_left
                  · simp only [Act.put, Less.p1, Less.p2, Less.p3, i64_w, i32_w]
                    rfl
                  refine pure_ (i := 21) (N := some 33) (v := undef) (a' := ?_) (Less.bv 32 4194303) rfl rfl (any_of HT_.out (by kernel_rfl)) (fun _ _ _ h => h) (Or.inr ⟨by rfl, rfl⟩) ?_ ?_
                  rotate_left
                  · simp only [Act.put, Less.p1, Less.p2, Less.p3, i64_w, i32_w]
                    rfl
                  refine pure_ (i := 22) (N := some 34) (v := undef) (a' := ?_) (Less.bv 32 8388607) rfl rfl (any_of HT_.out (by kernel_rfl)) (fun _ _ _ h => h) (Or.inr ⟨by rfl, rfl⟩) ?_ ?_
                  rotate_left
                  · simp only [Act.put, Less.p1, Less.p2, Less.p3, i64_w, i32_w]
                    rfl
                  refine pure_ (i := 23) (N := some 35) (v := undef) (a' := ?_) (Less.bv 32 16777215) rfl rfl (any_of HT_.out (by kernel_rfl)) (fun _ _ _ h => h) (Or.inr ⟨by rfl, rfl⟩) ?_ ?_
                  rotate_left
                  · simp only [Act.put, Less.p1, Less.p2, Less.p3, i64_w, i32_w]
                    rfl
                  refine pure_ (i := 24) (N := some 36) (v := undef) (a' := ?_) (Less.bv 32 33554431) rfl rfl (any_of HT_.out (by kernel_rfl)) (fun _ _ _ h => h) (Or.inr ⟨by rfl, rfl⟩) ?_ ?_
                  rotate_left
                  · simp only [Act.put, Less.p1, Less.p2, Less.p3, i64_w, i32_w]
                    rfl
                  refine pure_ (i := 25) (N := some 37) (v := undef) (a' := ?_) (Less.bv 32 67108863) rfl rfl (any_of HT_.out (by kernel_rfl)) (fun _ _ _ h => h) (Or.inr ⟨by rfl, rfl⟩) ?_ ?_
                  rotate_left
                  · simp only [Act.put, Less.p1, Less.p2, Less.p3, i64_w, i32_w]
                    rfl
                  refine pure_ (i := 26) (N := some 38) (v := undef) (a' := ?_) (Less.bv 32 134217727) rfl rfl (any_of HT_.out (by kernel_rfl)) (fun _ _ _ h => h) (Or.inr ⟨by rfl, rfl⟩) ?_ ?_
                  rotate_left
                  · simp only [Act.put, Less.p1, Less.p2, Less.p3, i64_w, i32_w]
                    rfl
                  refine pure_ (i := 27) (N := some 39) (v := undef) (a' := ?_) (Less.bv 32 268435455) rfl rfl (any_of HT_.out (by kernel_rfl)) (fun _ _ _ h => h) (Or.inr ⟨by rfl, rfl⟩) ?_ ?_
                  rotate_left
                  · simp only [Act.put, Less.p1, Less.p2, Less.p3, i64_w, i32_w]
                    rfl
                  refine pure_ (i := 28) (N := some 40) (v := undef) (a' := ?_) (Less.bv 32 536870911) rfl rfl (any_of HT_.out (by kernel_rfl)) (fun _ _ _ h => h) (Or.inr ⟨by rfl, rfl⟩) ?_ ?_
                  rotate_left
                  · simp only [Act.put, Less.p1, Less.p2, Less.p3, i64_w, i32_w]
                    rfl
                  refine pure_ (i := 29) (N := some 41) (v := undef) (a' := ?_) (Less.bv 32 1073741823) rfl rfl (any_of HT_.out (by kernel_rfl)) (fun _ _ _ h => h) (Or.inr ⟨by rfl, rfl⟩) ?_ ?_
                  rotate_left
                  · simp only [Act.put, Less.p1, Less.p2, Less.p3, i64_w, i32_w]
                    rfl
                  refine pure_ (i := 30) (N := some 42) (v := undef) (a' := ?_) (Less.bv 32 2147483647) rfl rfl (any_of HT_.out (by kernel_rfl)) (fun _ _ _ h => h) (Or.inr ⟨by rfl, rfl⟩) ?_ ?_
                  rotate_left
                  · simp only [Act.put, Less.p1, Less.p2, Less.p3, i64_w, i32_w]
                    rfl
                  refine pure_ (i := 31) (N := some 43) (v := ?_) (a' := ?_) (Less.bv 32 4294967295) rfl rfl (any_of HT_.out (by kernel_rfl)) (fun _ _ _ h => h) (Or.inl ⟨by rfl, ?_⟩) ?_ ?_
                  rotate_left
                  · intro w'
                    go_simp
                    with_reducible rfl
                  rotate_left
                  · simp only [Act.put, Less.p1, Less.p2, Less.p3, i64_w, i32_w]
                    rfl
                  refine done_ (done_of HT_.out (by kernel_rfl)) ?_
                  try go_wp2
                  go_ret
                  exact ⟨by first | rfl | (simp [errW_none, errW_some] <;> rfl) | (simp [*, errW_none, errW_some] <;> rfl), by repeat (first | (with_reducible first | exact HB.out | apply below_alloc | apply pw_below_drewN | apply below_drew1 | refine below_set ?_ GE118.out) | exact HB.out)⟩
              · replace c11 := Bool.eq_false_iff.mpr c11
                subst c11
                have H1 : (some false) = some r := by rw [if_neg (show ¬ (false = true) by decide)] at H; exact H
                clear H
                have H := H1
                clear H1
                obtain rfl := Option.some.inj H
                have p117 : 0 ≤ (x7_1 : Int) := of_decide_eq_true (by first | (with_reducible assumption) | assumption)
                have q117 : x7_1 < (l0.length : Int) := of_decide_eq_true (by first | (with_reducible assumption) | assumption)
                obtain ⟨ad117, A117_0, c117_0, A117_1, c117_1, e117, hx117_0, hx117_1, hl117_0, hi117_0, hl117_1, hi117_1⟩ := at_T59 HR0.out x7_1 p117 q117
                cases e117
                replace hx117_0 := (HB.out.cell (World.block_lt_of_cell? w _ hx117_0)).trans hx117_0
                replace hx117_1 := (HB.out.cell (World.block_lt_of_cell? w _ hx117_1)).trans hx117_1
                have HR117_0 := Aside0.mk hi117_0
                have HC117_0 := Aside0.mk hl117_0
                clear hi117_0 hl117_0
                have HR117_1 := Aside0.mk hi117_1
                have HC117_1 := Aside0.mk hl117_1
                clear hi117_1 hl117_1
                replace p117 := eq_true p117
                replace q117 := eq_true q117
                try go_wp2_with (first | ((with_reducible refine gate_dst (N := 4) rfl ?_); refine box_event ?hg (N := 4) ?hd (cs := #[.slice none 0 0, .slice none 0 0]) (t := 59) ?hr ?_; (case hd => rfl); (case hg => rfl); (case hr => first | (go_simp; done) | (go_simp; rfl)); intro gb118 hg w46 hbox hb; have n0_ := Aside0.mk (below_step (by repeat (first | (with_reducible first | exact HB.out | apply below_alloc | apply pw_below_drewN | apply below_drew1) | exact HB.out)) hb); have n1_ := Aside0.mk (hbox); have n2_ := Aside0.mk ((by rw [hg]; exact (below_size (by repeat (first | (with_reducible first | exact HB.out | apply below_alloc | apply pw_below_drewN | apply below_drew1) | exact HB.out))) : w.heap.size ≤ gb118)); have n3_ := Aside0.mk ((by rw [hg]; exact (below_size (by repeat (first | (with_reducible first | exact HB.out | apply below_alloc | apply pw_below_drewN | apply below_drew1) | exact HB.out))) : w.heap.size ≤ gb118)); clear HB; have HB := n0_; have BK118 := n1_; have GW118 := n2_; have GE118 := n3_; clear n0_ n1_ n2_ n3_; clear hb hbox hg; have hcz47_0 : w46.cell? ⟨gb118, 0, none⟩ = some (.slice none 0 0) := (blk_cell BK118.out 0).trans rfl; have hcz47_1 : w46.cell? ⟨gb118, 1, none⟩ = some (.slice none 0 0) := (blk_cell BK118.out 1).trans rfl; have hfz47_0 := blk_frozen BK118.out 0; have hfz47_1 := blk_frozen BK118.out 1))
                have n0_ : Aside0 (((w46.setCell ⟨gb118, 0, none⟩ (.slice A117_0 ((rd_T59 l0 x7_1).f0).length c117_0)).setCell ⟨gb118, 1, none⟩ (.slice A117_1 ((rd_T59 l0 x7_1).f1).length c117_1)).heap[gb118]? = some (.cells #[.slice A117_0 ((rd_T59 l0 x7_1).f0).length c117_0, .slice A117_1 ((rd_T59 l0 x7_1).f1).length c117_1] 59 (0, 0))) := ⟨by (with_reducible repeat (first | refine blk_drewN ?_ _ | refine blk_drew ?_ | refine blk_alloc ?_ _)); refine blk_put (cs := #[.slice A117_0 ((rd_T59 l0 x7_1).f0).length c117_0, .slice none 0 0]) ?_ 1 _ rfl; (with_reducible repeat (first | refine blk_drewN ?_ _ | refine blk_drew ?_ | refine blk_alloc ?_ _)); refine blk_put (cs := #[.slice none 0 0, .slice none 0 0]) ?_ 0 _ rfl; (with_reducible repeat (first | refine blk_drewN ?_ _ | refine blk_drew ?_ | refine blk_alloc ?_ _)); exact BK118.out⟩
                have n1_ : Aside0 (Below w.heap.size w ((w46.setCell ⟨gb118, 0, none⟩ (.slice A117_0 ((rd_T59 l0 x7_1).f0).length c117_0)).setCell ⟨gb118, 1, none⟩ (.slice A117_1 ((rd_T59 l0 x7_1).f1).length c117_1))) := ⟨by repeat (first | (with_reducible first | exact HB.out | apply below_alloc | apply pw_below_drewN | apply below_drew1 | refine below_set ?_ GE118.out) | exact HB.out)⟩
                (try clear BK118)
                (try clear HB)
                generalize ((w46.setCell ⟨gb118, 0, none⟩ (.slice A117_0 ((rd_T59 l0 x7_1).f0).length c117_0)).setCell ⟨gb118, 1, none⟩ (.slice A117_1 ((rd_T59 l0 x7_1).f1).length c117_1)) = w48 at n0_ n1_ ⊢
                have BK118 := n0_
                have HB := n1_
                clear n0_ n1_
                have n0_ := Aside0.mk (blk_drew BK118.out)
                have n1_ := Aside0.mk (below_drew1 HB.out)
                clear BK118
                clear HB
                have BK118 := n0_
                have HB := n1_
                clear n0_ n1_
                refine start_ (n := 32) (S := fun w' => w'.cell? ⟨gb118, 0, none⟩ = some (.slice A117_0 ((rd_T59 l0 x7_1).f0).length c117_0) ∧ w'.cell? ⟨gb118, 1, none⟩ = some (.slice A117_1 ((rd_T59 l0 x7_1).f1).length c117_1)) (ds := []) #[false, false, false, false, false, false, false, false, false, false, false, false, false, false, false, false, false, false, false, false, false, false, false, false, false, false, false, false, false, false, false, false] (by kernel_rfl) rfl rfl ⟨(blk_cell BK118.out 0).trans rfl, (blk_cell BK118.out 1).trans rfl⟩ (fun hHeld => ?_); refine with_tabW store_Right.tab4 store_Right.bits4 (fun HT_ HW_ => ?_)
                generalize w48.drew = w49 at BK118 HB hHeld ⊢
                refine pure_ (i := 0) (N := some 12) (v := ?_) (a' := ?_) (Less.bv 32 1) rfl rfl (any_of HT_.out (by kernel_rfl)) (fun _ _ _ h => h) (Or.inl ⟨by rfl, ?_⟩) ?_ ?_
                rotate_left
                · intro w'
                  go_simp
                  with_reducible rfl
                rotate_left
                · simp only [Act.put, Less.p1, Less.p2, Less.p3, i64_w, i32_w]
                  rfl
                refine take_ (i := 1) (N := some 13) (v := ?_) (a' := ?_) (Less.bv 32 3) rfl rfl (take_ofW HT_.out HW_.out (by kernel_rfl)) (fun _ _ _ h => h) (Or.inl ⟨by rfl, ?_⟩) hHeld ?_ ?_
                rotate_left
                · rintro w' ⟨s0, s1⟩
                  go_simp
                  with_reducible rfl
                rotate_left
                · simp only [Act.put, Less.p1, Less.p2, Less.p3, i64_w, i32_w]
                  rfl
                refine pure_ (i := 2) (N := some 14) (v := ?_) (a' := ?_) (Less.bv 32 7) rfl rfl (any_of HT_.out (by kernel_rfl)) (fun _ _ _ h => h) (Or.inl ⟨by rfl, ?_⟩) ?_ ?_
                rotate_left
                · intro w'
                  go_simp
                  with_reducible rfl
                rotate_left
                · simp only [Act.put, Less.p1, Less.p2, Less.p3, i64_w, i32_w]
                  rfl
                refine pure_ (i := 3) (N := some 15) (v := ?_) (a' := ?_) (Less.bv 32 15) rfl rfl (any_of HT_.out (by kernel_rfl)) (fun _ _ _ h => h) (Or.inl ⟨by rfl, ?_⟩) ?_ ?_
                rotate_left
                · intro w'
                  go_simp
                  with_reducible rfl
                rotate_left
                · simp only [Act.put, Less.p1, Less.p2, Less.p3, i64_w, i32_w]
                  rfl
                refine pure_ (i := 4) (N := some 16) (v := ?_) (a' := ?_) (Less.bv 32 31) rfl rfl (any_of HT_.out (by kernel_rfl)) (fun _ _ _ h => h) (Or.inl ⟨by rfl, ?_⟩) ?_ ?_
                rotate_left
                · intro w'
                  go_simp
                  with_reducible rfl
                rotate_left
                · simp only [Act.put, Less.p1, Less.p2, Less.p3, i64_w, i32_w]
                  rfl
                refine pure_ (i := 5) (N := some 17) (v := ?_) (a' := ?_) (Less.bv 32 63) rfl rfl (any_of HT_.out (by kernel_rfl)) (fun _ _ _ h => h) (Or.inl ⟨by rfl, ?_⟩) ?_ ?_
                rotate_left
                · intro w'
                  go_simp
                  with_reducible rfl
                rotate_left
                · simp only [Act.put, Less.p1, Less.p2, Less.p3, i64_w, i32_w]
                  rfl
                refine take_ (i := 6) (N := some 18) (v := ?_) (a' := ?_) (Less.bv 32 127) rfl rfl (take_ofW HT_.out HW_.out (by kernel_rfl)) (fun _ _ _ h => h) (Or.inl ⟨by rfl, ?_⟩) hHeld ?_ ?_
                rotate_left
                · rintro w' ⟨s0, s1⟩
                  go_simp
                  with_reducible rfl
                rotate_left
                · simp only [Act.put, Less.p1, Less.p2, Less.p3, i64_w, i32_w]
                  rfl
                refine one_ (i := 7) (N := some 19) (Less.bv 32 255) rfl rfl (one_of HT_.out (by kernel_rfl)) (by decide) (fun K hK => ?_)
                refine goes_ Tryd.func67 (by kernel_rfl) rfl #[.slice A117_0 ((rd_T59 l0 x7_1).f0).length c117_0] (by rfl) rfl rfl (by (try simp only [List.map_toArray, List.map_cons, List.map_nil]); first | done | rfl | (simp only [List.length_drop, List.length_take]; rfl)) ?_
                with_reducible refine (label_Right.calls k1 _ _ ((rd_T59 l0 x7_1).f0) false _ ?side1 ?side2 ?hGL A10.out).mono ?_
                case hGL => exact GL.below HG.out (by repeat (first | (with_reducible first | exact HB.out | apply below_alloc | apply pw_below_drewN | apply below_drew1) | exact HB.out))
                (case side1 => repeat (first | exact (Kd.C_below HR117_0.out HB.out) | (with_reducible refine Kd.C_alloc ?_ _) | (with_reducible refine Kd.C_drewN ?_ _) | (with_reducible refine Kd.C_drew ?_)))
                (case side2 => exact HC117_0.out)
                rintro e w50 ⟨rfl, hb⟩
                refine ⟨_, rfl, ?_⟩
                have n0_ := Aside0.mk (blk_below (g := gb118) (o := .cells #[.slice A117_0 ((rd_T59 l0 x7_1).f0).length c117_0, .slice A117_1 ((rd_T59 l0 x7_1).f1).length c117_1] 59 (0, 0)) (by (with_reducible repeat (first | refine blk_drewN ?_ _ | refine blk_drew ?_ | refine blk_alloc ?_ _)); exact BK118.out) hb)
                have n1_ := Aside0.mk (below_step (by repeat (first | (with_reducible first | exact HB.out | apply below_alloc | apply pw_below_drewN | apply below_drew1 | refine below_set ?_ GE118.out) | exact HB.out)) hb)
                clear BK118
                clear HB
                have BK118 := n0_
                have HB := n1_
                clear n0_ n1_
                (try clear hb)
                (try clear hb2)
                (try clear hk)
                (try clear hi)
                refine hK.out _ _ ⟨(blk_cell BK118.out 0).trans rfl, (blk_cell BK118.out 1).trans rfl⟩ (fun hHeld => ?_)
                clear hK K
                refine norm_ (a' := ?_) ?_ ?_
                rotate_left
                · show Act.put _ (some 19) _ = _
                  simp only [Act.put, Less.p1, Less.p2, Less.p3, i64_w, i32_w]
                  rfl
                refine pure_ (i := 8) (N := some 20) (v := ?_) (a' := ?_) (Less.bv 32 511) rfl rfl (any_of HT_.out (by kernel_rfl)) (fun _ _ _ h => h) (Or.inl ⟨by rfl, ?_⟩) ?_ ?_
                rotate_left
                · intro w'
                  go_simp
                  with_reducible rfl
                rotate_left
                · simp only [Act.put, Less.p1, Less.p2, Less.p3, i64_w, i32_w]
                  rfl
                refine pure_ (i := 9) (N := some 21) (v := ?_) (a' := ?_) (Less.bv 32 1023) rfl rfl (any_of HT_.out (by kernel_rfl)) (fun _ _ _ h => h) (Or.inl ⟨by rfl, ?_⟩) ?_ ?_
                rotate_left
                · intro w'
                  go_simp
                  with_reducible rfl
                rotate_left
                · simp only [Act.put, Less.p1, Less.p2, Less.p3, i64_w, i32_w]
                  rfl
                refine pure_ (i := 10) (N := some 22) (v := ?_) (a' := ?_) (Less.bv 32 2047) rfl rfl (any_of HT_.out (by kernel_rfl)) (fun _ _ _ h => h) (Or.inl ⟨by rfl, ?_⟩) ?_ ?_
                rotate_left
                · intro w'
                  go_simp
                  with_reducible rfl
                rotate_left
                · simp only [Act.put, Less.p1, Less.p2, Less.p3, i64_w, i32_w]
                  rfl
                refine pure_ (i := 11) (N := some 23) (v := undef) (a' := ?_) (Less.bv 32 4095) rfl rfl (any_of HT_.out (by kernel_rfl)) (fun _ _ _ h => h) (Or.inr ⟨by rfl, rfl⟩) ?_ ?_
                rotate_left
                · simp only [Act.put, Less.p1, Less.p2, Less.p3, i64_w, i32_w]
                  rfl
                refine pure_ (i := 12) (N := some 24) (v := undef) (a' := ?_) (Less.bv 32 8191) rfl rfl (any_of HT_.out (by kernel_rfl)) (fun _ _ _ h => h) (Or.inr ⟨by rfl, rfl⟩) ?_ ?_
                rotate_left
                · simp only [Act.put, Less.p1, Less.p2, Less.p3, i64_w, i32_w]
                  rfl
                refine pure_ (i := 13) (N := some 25) (v := undef) (a' := ?_) (Less.bv 32 16383) rfl rfl (any_of HT_.out (by kernel_rfl)) (fun _ _ _ h => h) (Or.inr ⟨by rfl, rfl⟩) ?_ ?_
                rotate_left
                · simp only [Act.put, Less.p1, Less.p2, Less.p3, i64_w, i32_w]
                  rfl
                refine pure_ (i := 14) (N := some 26) (v := undef) (a' := ?_) (Less.bv 32 32767) rfl rfl (any_of HT_.out (by kernel_rfl)) (fun _ _ _ h => h) (Or.inr ⟨by rfl, rfl⟩) ?_ ?_
                rotate_left
                · simp only [Act.put, Less.p1, Less.p2, Less.p3, i64_w, i32_w]
                  rfl
                refine pure_ (i := 15) (N := some 27) (v := ?_) (a' := ?_) (Less.bv 32 65535) rfl rfl (any_of HT_.out (by kernel_rfl)) (fun _ _ _ h => h) (Or.inl ⟨by rfl, ?_⟩) ?_ ?_
                rotate_left
                · intro w'
                  go_simp
                  with_reducible rfl
                rotate_left
                · simp only [Act.put, Less.p1, Less.p2, Less.p3, i64_w, i32_w]
                  rfl
                refine pure_ (i := 16) (N := some 28) (v := ?_) (a' := ?_) (Less.bv 32 131071) rfl rfl (any_of HT_.out (by kernel_rfl)) (fun _ _ _ h => h) (Or.inl ⟨by rfl, ?_⟩) ?_ ?_
                rotate_left
                · intro w'
                  go_simp
                  with_reducible rfl
                rotate_left
                · simp only [Act.put, Less.p1, Less.p2, Less.p3, i64_w, i32_w]
                  rfl
                refine pure_ (i := 17) (N := some 29) (v := undef) (a' := ?_) (Less.bv 32 262143) rfl rfl (any_of HT_.out (by kernel_rfl)) (fun _ _ _ h => h) (Or.inr ⟨by rfl, rfl⟩) ?_ ?_
                rotate_left
                · simp only [Act.put, Less.p1, Less.p2, Less.p3, i64_w, i32_w]
                  rfl
                refine pure_ (i := 18) (N := some 30) (v := undef) (a' := ?_) (Less.bv 32 524287) rfl rfl (any_of HT_.out (by kernel_rfl)) (fun _ _ _ h => h) (Or.inr ⟨by rfl, rfl⟩) ?_ ?_
                rotate_left
                · simp only [Act.put, Less.p1, Less.p2, Less.p3, i64_w, i32_w]
                  rfl
                refine pure_ (i := 19) (N := some 31) (v := undef) (a' := ?_) (Less.bv 32 1048575) rfl rfl (any_of HT_.out (by kernel_rfl)) (fun _ _ _ h => h) (Or.inr ⟨by rfl, rfl⟩) ?_ ?_
                rotate_left
                · simp only [Act.put, Less.p1, Less.p2, Less.p3, i64_w, i32_w]
                  rfl
                refine pure_ (i := 20) (N := some 32) (v := undef) (a' := ?_) (Less.bv 32 2097151) rfl rfl (any_of HT_.out (by kernel_rfl)) (fun _ _ _ h => h) (Or.inr ⟨by rfl, rfl⟩) ?_ ?_
                rotate_left
                · simp only [Act.put, Less.p1, Less.p2, Less.p3, i64_w, i32_w]
                  rfl
                refine pure_ (i := 21) (N := some 33) (v := undef) (a' := ?_) (Less.bv 32 4194303) rfl rfl (any_of HT_.out (by kernel_rfl)) (fun _ _ _ h => h) (Or.inr ⟨by rfl, rfl⟩) ?_ ?_
                rotate_left
                · simp only [Act.put, Less.p1, Less.p2, Less.p3, i64_w, i32_w]
                  rfl
                refine pure_ (i := 22) (N := some 34) (v := undef) (a' := ?_) (Less.bv 32 8388607) rfl rfl (any_of HT_.out (by kernel_rfl)) (fun _ _ _ h => h) (Or.inr ⟨by rfl, rfl⟩) ?_ ?_
                rotate_left
                · simp only [Act.put, Less.p1, Less.p2, Less.p3, i64_w, i32_w]
                  rfl
                refine pure_ (i := 23) (N := some 35) (v := undef) (a' := ?_) (Less.bv 32 16777215) rfl rfl (any_of HT_.out (by kernel_rfl)) (fun _ _ _ h => h) (Or.inr ⟨by rfl, rfl⟩) ?_ ?_
                rotate_left
                · simp only [Act.put, Less.p1, Less.p2, Less.p3, i64_w, i32_w]
                  rfl
                refine pure_ (i := 24) (N := some 36) (v := undef) (a' := ?_) (Less.bv 32 33554431) rfl rfl (any_of HT_.out (by kernel_rfl)) (fun _ _ _ h => h) (Or.inr ⟨by rfl, rfl⟩) ?_ ?_
                rotate_left
                · simp only [Act.put, Less.p1, Less.p2, Less.p3, i64_w, i32_w]
                  rfl
                refine pure_ (i := 25) (N := some 37) (v := undef) (a' := ?_) (Less.bv 32 67108863) rfl rfl (any_of HT_.out (by kernel_rfl)) (fun _ _ _ h => h) (Or.inr ⟨by rfl, rfl⟩) ?_ ?_
                rotate_left
                · simp only [Act.put, Less.p1, Less.p2, Less.p3, i64_w, i32_w]
                  rfl
                refine pure_ (i := 26) (N := some 38) (v := undef) (a' := ?_) (Less.bv 32 134217727) rfl rfl (any_of HT_.out (by kernel_rfl)) (fun _ _ _ h => h) (Or.inr ⟨by rfl, rfl⟩) ?_ ?_
                rotate_left
                · simp only [Act.put, Less.p1, Less.p2, Less.p3, i64_w, i32_w]
                  rfl
                refine pure_ (i := 27) (N := some 39) (v := undef) (a' := ?_) (Less.bv 32 268435455) rfl rfl (any_of HT_.out (by kernel_rfl)) (fun _ _ _ h => h) (Or.inr ⟨by rfl, rfl⟩) ?_ ?_
                rotate_left
                · simp only [Act.put, Less.p1, Less.p2, Less.p3, i64_w, i32_w]
                  rfl
                refine pure_ (i := 28) (N := some 40) (v := undef) (a' := ?_) (Less.bv 32 536870911) rfl rfl (any_of HT_.out (by kernel_rfl)) (fun _ _ _ h => h) (Or.inr ⟨by rfl, rfl⟩) ?_ ?_
                rotate_left
                · simp only [Act.put, Less.p1, Less.p2, Less.p3, i64_w, i32_w]
                  rfl
                refine pure_ (i := 29) (N := some 41) (v := undef) (a' := ?_) (Less.bv 32 1073741823) rfl rfl (any_of HT_.out (by kernel_rfl)) (fun _ _ _ h => h) (Or.inr ⟨by rfl, rfl⟩) ?_ ?_
                rotate_left
                · simp only [Act.put, Less.p1, Less.p2, Less.p3, i64_w, i32_w]
                  rfl
                refine pure_ (i := 30) (N := some 42) (v := undef) (a' := ?_) (Less.bv 32 2147483647) rfl rfl (any_of HT_.out (by kernel_rfl)) (fun _ _ _ h => h) (Or.inr ⟨by rfl, rfl⟩) ?_ ?_
                rotate_left
                · simp only [Act.put, Less.p1, Less.p2, Less.p3, i64_w, i32_w]
                  rfl
                refine pure_ (i := 31) (N := some 43) (v := ?_) (a' := ?_) (Less.bv 32 4294967295) rfl rfl (any_of HT_.out (by kernel_rfl)) (fun _ _ _ h => h) (Or.inl ⟨by rfl, ?_⟩) ?_ ?_
                rotate_left
                · intro w'
                  go_simp
                  with_reducible rfl
                rotate_left
                · simp only [Act.put, Less.p1, Less.p2, Less.p3, i64_w, i32_w]
                  rfl
                refine done_ (done_of HT_.out (by kernel_rfl)) ?_
                try go_wp2
                go_ret
                exact ⟨by first | rfl | (simp [errW_none, errW_some] <;> rfl) | (simp [*, errW_none, errW_some] <;> rfl), by repeat (first | (with_reducible first | exact HB.out | apply below_alloc | apply pw_below_drewN | apply below_drew1 | refine below_set ?_ GE118.out) | exact HB.out)⟩
          · rw [if_neg c4] at H
            exact absurd H (by simp)
        · rw [if_neg c3] at H
          exact absurd H (by simp)
      · rw [if_neg c2] at H
        have c2b0 : decide (x7_1 < (l0.length : Int)) = false := decide_eq_false c2
        clear c2
        obtain rfl := Option.some.inj H
        go_wp2
        go_ret
        exact ⟨by first | rfl | (simp [errW_none, errW_some] <;> rfl) | (simp [*, errW_none, errW_some] <;> rfl), by repeat (first | (with_reducible first | exact HB.out | apply below_alloc | apply pw_below_drewN | apply below_drew1) | exact HB.out)⟩

end Go.Proofs.YtlelcmkbcejjkaaDoor.L
