/- label.Cmp, Keep, Drop: contracts; the sort of labels. label.Make, Keep, Drop: contracts. label.Cmp, soundingslaw01.Code in the print's shape. -/
import Derived.Test.YtlelcmkbcejjkaaDoorLabA
import Derived.Test.YtlelcmkbcejjkaaDoorShelf
import Derived.Laws.EntriesVeiled
import Derived.Deep.LoopGhost
import Derived.Deep.RegionHeld3
import Derived.Deep.RegionWith
import Derived.Test.YtlelcmkbcejjkaaDoorLabN
import Derived.Test.YtlelcmkbcejjkaaDoorLx21
namespace Go.Proofs.YtlelcmkbcejjkaaDoor.L
open Go.Proofs Go.Shelf Go.Proofs.YtlelcmkbcejjkaaDoor.Two Go.Proofs.YtlelcmkbcejjkaaDoor.Lab Go.Proofs.YtlelcmkbcejjkaaDoor.Cmp
open Go.RowKit Go.Proofs.YtlelcmkbcejjkaaDoorW.PrintWords Go.Proofs.YtlelcmkbcejjkaaDoorW.PrintLast Go.Proofs.YtlelcmkbcejjkaaDoorW.PrintMore
set_option linter.unusedVariables false
set_option linter.unusedSimpArgs false

/-! ### the sort -/
def encL (x : Lb) : List Value := [.string x.f0, .string x.f1]
instance : Inhabited Lb := ⟨z67⟩
theorem two_cell {w : World} {g cap : Nat} {l : List Lb} (h : TwoBlk 67 lb_0 lb_1 w g cap l) (j : Nat) (hj : j < l.length * 2) :
    w.cell? ⟨g, 0 + j, none⟩ = some ((encL l.toArray[j / 2]!)[j % 2]!) ∧ w.frozen? ⟨g, 0 + j, none⟩ = false := by
  have hq : j / 2 < l.length := by omega
  obtain ⟨c0, c1⟩ := h.cell (j / 2) hq
  refine ⟨?_, h.frozen _⟩
  have e0 : l.toArray[j / 2]! = l[j / 2] := by simp [hq]
  rw [Nat.zero_add, e0]
  rcases Nat.mod_two_eq_zero_or_one j with e | e
  · rw [e, show (⟨g, j, none⟩ : Addr) = ⟨g, j / 2 * 2, none⟩ by congr 1; omega, c0]; rfl
  · rw [e, show (⟨g, j, none⟩ : Addr) = ⟨g, j / 2 * 2 + 1, none⟩ by congr 1; omega, c1]; rfl
theorem two_holds {w : World} {g cap : Nat} {l : List Lb} (h : TwoBlk 67 lb_0 lb_1 w g cap l) : Sort.HoldsK encL 2 w g 0 l.toArray := by
  intro j hj
  have hj' : j < l.length * 2 := by simpa using hj
  have := two_cell h j hj'
  rw [Sort.get_flatK _ _ _ _ (by simpa using hj')]
  exact this
theorem sorted_blk {w : World} {g n : Nat} {cs : Array Value} {E : TypeId} (l : List Lb) (os : Array Obj) (h : w.heap[g]? = some (.cells cs E (0, 0))) :
    ∃ cs', (sortWorldK encL 2 w g 0 n l.toArray os).heap[g]? = some (.cells cs' E (0, 0)) ∧ cs'.size = cs.size := by
  refine ⟨Sort.putCells id 0 (Sort.flatK encL 2 l.toArray) cs, ?_, by simp [Sort.putCells]⟩
  have hlt : g < w.heap.size := blk_lt h
  show (Array.modify w.heap g _ ++ os)[g]? = _
  rw [Array.getElem?_append_left (by simpa using hlt), Array.getElem?_modify, if_pos rfl, h]
  rfl
theorem two_sorted {w : World} {g cap n : Nat} {l l' : List Lb} (os : Array Obj) (h : TwoBlk 67 lb_0 lb_1 w g cap l) (hl : l'.length = l.length) :
    TwoBlk 67 lb_0 lb_1 (sortWorldK encL 2 w g 0 n l'.toArray os) g cap l' := by
  have hH := holdsK_sortWorldK_c encL 2 w g 0 l.toArray l'.toArray n os (two_holds h) h.lt (by simp [hl])
  obtain ⟨cs, hg, hs, hlc, hm, hc⟩ := h
  obtain ⟨cs', hg', hs'⟩ := sorted_blk (n := n) l' os hg
  refine ⟨cs', hg', hs'.trans hs, by omega, hm, fun j hj => ?_⟩
  have e0 : l'.toArray[j]! = l'[j] := by simp [hj]
  have a0 := (Sort.HoldsK.cell hH (i := j) (c := 0) (by simpa using hj) (by omega)).1
  have a1 := (Sort.HoldsK.cell hH (i := j) (c := 1) (by simpa using hj) (by omega)).1
  rw [e0] at a0 a1
  rw [Nat.zero_add, Nat.add_zero, blk_cell hg'] at a0
  rw [Nat.zero_add, blk_cell hg'] at a1
  exact ⟨a0, a1⟩
theorem sorted_below {w : World} {g n B : Nat} (l : List Lb) (os : Array Obj) (hB : B ≤ g) (hlt : g < w.heap.size) : RowKit.Below B w (sortWorldK encL 2 w g 0 n l.toArray os) := by
  refine ⟨rfl, rfl, rfl, ?_, fun k hk => ?_⟩
  · show w.heap.size ≤ (Array.modify w.heap g _ ++ os).size
    rw [Array.size_append, Array.size_modify]; omega
  · show (Array.modify w.heap g _ ++ os)[k]? = _
    rw [Array.getElem?_append_left (by rw [Array.size_modify]; omega), Array.getElem?_modify, if_neg (by omega)]
theorem by_lays (blk off size : Nat) (w : World) : CmpLays Tryd.prog 71 #[] encL 2 ordL blk off size w :=
  fun _ _ _ _ x y => by_calls x.f0 x.f1 y.f0 y.f1 _
set_option maxHeartbeats 1000000 in
theorem sort_calls (v : Value) (l : List Lb) (B : Nat) (w : World) (hB : B ≤ w.heap.size) (hR : Kd.R k67 67 w B (fun _ => True) v l) (hsz : l.length < 4611686018427387904) :
    Calls Tryd.prog 70 #[v, .func (.func 71) #[] #[]] w fun e w' => e = .returned (.tuple #[]) ∧ Kd.R k67 67 w' B (fun _ => True) v (sortF ordL l) ∧ RowKit.Below B w w' := by
  by_cases h0 : l = []
  · subst h0
    obtain ⟨A, c, rfl, hlc, hC⟩ := Kd.R_reads hR
    have hs : sortF ordL ([] : List Lb) = [] := by simp [sortF]
    rw [hs]
    have := AnyF.slices_SortFunc_none Tryd.sortL A c (.func (.func 71) #[] #[]) w
    exact this.mono fun e w' ⟨he, hw⟩ => by subst hw; exact ⟨he, hR, RowKit.Below.refl _ _⟩
  · rcases lb_two hR with ⟨rfl, h1⟩ | ⟨g, cap, rfl, hBg, hT⟩
    · exact absurd h1 h0
    · have eg : ∀ args w, (callFunc 71 args).run Tryd.prog w = .ok (.enter 71 args) w := enters_of Tryd.func71 (by kernel_rfl) rfl
      have hl : (sortF ordL l).length = l.length := (sortF_perm l).length_eq
      have := AnyQ.slices_SortFunc_total Tryd.sortL 2 (fun w => by kernel_rfl) (fun w => by kernel_rfl) encL (fun _ => rfl) (fun x v hv => by simp [encL] at hv; rcases hv with rfl | rfl <;> rfl) ordL ord_lb.swo 71 #[] g 0 cap l.toArray w eg (by_lays g 0 _ w) (two_holds hT) hT.lt (by simpa using hsz) ord_lb.tot
      have hsize : l.toArray.size = l.length := by simp
      rw [hsize] at this
      refine this.mono ?_
      rintro e w' ⟨he, n, os, rfl⟩
      have h3 := two_sorted (n := n) os hT hl
      have h4 := lb_R h3 hBg
      rw [hl] at h4
      exact ⟨he, h4, sorted_below _ os hBg hT.lt⟩

/-! ### slices.CompareFunc -/
theorem rdL_at (l : List Lb) (i : Nat) (h : i < l.length) : rd_T67 l (i : Int) = l[i] := lb_rd l i h
set_option maxHeartbeats 2000000 in
theorem cmpf_calls (A : Option Addr) (ca : Nat) (a : List Lb) (B : Option Addr) (cb : Nat) (b : List Lb) (w : World) (hA : Kd.C k67 w A a.length a) (hB : Kd.C k67 w B b.length b) :
    Calls Tryd.prog 81 #[.slice A a.length ca, .slice B b.length cb, .func (.func 71) #[] #[]] w fun e w' => e = .returned (.int .i64 (cmpLs ordL a b)) ∧ RowKit.Below w.heap.size w w' := by
  have hna : a.length ≤ 9223372036854775807 := hA.2.1
  have hnb : b.length ≤ 9223372036854775807 := hB.2.1
  have HA := Aside0.mk hA
  have HB := Aside0.mk hB
  obtain ⟨R, hR⟩ : ∃ R, R = cmpLs ordL a b := ⟨_, rfl⟩
  rw [← hR]
  have HR := Aside0.mk hR
  clear hA hB hR
  have eg : ∀ args w, (callFunc 71 args).run Tryd.prog w = .ok (.enter 71 args) w := enters_of Tryd.func71 (by kernel_rfl) rfl
  go_enter Tryd.func81, Tryd.ntmps81
  go_wp2
  go_loopg [13] a.length (fun kx s13 wr => ∃ j : Nat, s13 = .int .i64 j ∧ j ≤ a.length ∧ j ≤ b.length ∧ a.length - j ≤ kx ∧ Aside0 (RowKit.Below w.heap.size w wr) ∧ Aside0 (R = cmpLs ordL (a.drop j) (b.drop j)))
  case atStart => exact ⟨0, rfl, by omega, by omega, by omega, ⟨RowKit.Below.refl _ _⟩, ⟨HR.out⟩⟩
  case round =>
    clear HR
    obtain ⟨j, rfl, hj, hjb, hg, HW, I⟩ := hrel
    by_cases hlt : j < a.length
    · obtain ⟨ad, rfl, hx0, hx1⟩ := at_T67 (Kd.C_below HA.out HW.out) j (by omega) (by omega)
      rw [Int.toNat_natCast] at hx0 hx1
      have er : Aside0 (rd_T67 a (j : Int) = a[j]) := ⟨lb_rd a j hlt⟩
      generalize rd_T67 a (j : Int) = x at hx0 hx1 er
      by_cases hltb : j < b.length
      · obtain ⟨bd, rfl, hy0, hy1⟩ := at_T67 (Kd.C_below HB.out HW.out) j (by omega) (by omega)
        rw [Int.toNat_natCast] at hy0 hy1
        have fr : Aside0 (rd_T67 b (j : Int) = b[j]) := ⟨lb_rd b j hltb⟩
        generalize rd_T67 b (j : Int) = y at hy0 hy1 fr
        have HC : Aside0 (∀ W, Calls Tryd.prog 71 #[.agg #[.string x.f0, .string x.f1], .agg #[.string y.f0, .string y.f1]] W fun e w' => e = .returned (.int .i64 (ordL x y)) ∧ Gr W w') := ⟨fun W => by_calls x.f0 x.f1 y.f0 y.f1 W⟩
        have HS : Aside0 (R = if ordL x y = 0 then cmpLs ordL (a.drop (j + 1)) (b.drop (j + 1)) else ordL x y) := ⟨by
          rw [I.out, List.drop_eq_getElem_cons hlt, List.drop_eq_getElem_cons hltb, er.out, fr.out]; rfl⟩
        clear I
        generalize ordL x y = c at HC HS
        have hz0 := pw_cell_below (below_alloc (RowKit.Below.refl _ _) (.cells #[.string x.f0, .string x.f1] 67)) hy0
        have hz1 := pw_cell_below (below_alloc (RowKit.Below.refl _ _) (.cells #[.string x.f0, .string x.f1] 67)) hy1
        clear hy0 hy1
        by_cases hc : c = 0
        · subst hc
          have I : Aside0 (R = cmpLs ordL (a.drop (j + 1)) (b.drop (j + 1))) := ⟨by rw [HS.out, if_pos rfl]⟩
          clear HS
          go_wp2_with (go_at_fn 71; refine (HC.out _).mono ?_; rintro e w1 ⟨rfl, hb1⟩; have HB1 := Aside0.mk hb1; clear hb1)
          go_roundg (a.length - (j + 1))
          case measure => omega
          case rel => exact ⟨j + 1, by go_num, by omega, by omega, by omega, ⟨below_then (below_alloc (below_alloc HW.out _) _) (by simp; have := HW.out.size; omega) HB1.out.below⟩, I⟩
        · have HE : Aside0 (R = c) := ⟨by rw [HS.out, if_neg hc]⟩
          have hcb : (c != 0) = true := by simpa using hc
          clear HS hc
          go_wp2_with (go_at_fn 71; refine (HC.out _).mono ?_; rintro e w1 ⟨rfl, hb1⟩; have HB1 := Aside0.mk hb1; clear hb1)
          go_ret
          exact ⟨congrArg (fun n : Int => Ending.returned (.int .i64 n)) HE.out.symm, below_then (below_alloc (below_alloc HW.out _) _) (by simp; have := HW.out.size; omega) HB1.out.below⟩
      · have HE : Aside0 (R = 1) := ⟨by
          rw [I.out, List.drop_eq_getElem_cons hlt, List.drop_eq_nil_of_le (show b.length ≤ j by omega)]; rfl⟩
        clear I
        have hge : (b.length : Int) ≤ (j : Int) := by omega
        go_wp2
        go_ret
        exact ⟨congrArg (fun n : Int => Ending.returned (.int .i64 n)) HE.out.symm, below_alloc HW.out _⟩
    · by_cases hltb : a.length < b.length
      · have HE : Aside0 (R = -1) := ⟨by
          rw [I.out, List.drop_eq_nil_of_le (show a.length ≤ j by omega), List.drop_eq_getElem_cons (show j < b.length by omega)]; rfl⟩
        clear I
        go_wp2
        go_ret
        exact ⟨congrArg (fun n : Int => Ending.returned (.int .i64 n)) HE.out.symm, HW.out⟩
      · have HE : Aside0 (R = 0) := ⟨by
          rw [I.out, List.drop_eq_nil_of_le (show a.length ≤ j by omega), List.drop_eq_nil_of_le (show b.length ≤ j by omega)]; rfl⟩
        clear I
        go_wp2
        go_ret
        exact ⟨congrArg (fun n : Int => Ending.returned (.int .i64 n)) HE.out.symm, HW.out⟩
theorem lcmp_calls (A : Option Addr) (ca : Nat) (a : List Lb) (B : Option Addr) (cb : Nat) (b : List Lb) (w : World) (hA : Kd.C k67 w A a.length a) (hB : Kd.C k67 w B b.length b) :
    Calls Tryd.prog 51 #[.slice A a.length ca, .slice B b.length cb] w fun e w' => e = .returned (.int .i64 (cmpLs ordL a b)) ∧ RowKit.Below w.heap.size w w' := by
  have H := cmpf_calls A ca a B cb b w hA hB
  clear hA hB
  generalize cmpLs ordL a b = R at H ⊢
  go_enter Tryd.func51, Tryd.ntmps51
  go_wp2_with (go_at_call 81; refine H.mono ?_; rintro e w' ⟨rfl, hb⟩)
  go_ret
  exact ⟨rfl, hb⟩
end Go.Proofs.YtlelcmkbcejjkaaDoor.L
namespace Go.Proofs.YtlelcmkbcejjkaaDoor.L
open Go.Proofs Go.Proofs.YtlelcmkbcejjkaaDoor.Two Go.Proofs.YtlelcmkbcejjkaaDoor.Lab Go.Proofs.YtlelcmkbcejjkaaDoor.Cmp
open Go.RowKit Go.Proofs.YtlelcmkbcejjkaaDoorW.PrintWords Go.Proofs.YtlelcmkbcejjkaaDoorW.PrintLast Go.Proofs.YtlelcmkbcejjkaaDoorW.PrintMore
set_option linter.unusedVariables false
set_option linter.unusedSimpArgs false
theorem may_calls (x : Lb) (w : World) (hG : GL w) : Calls Tryd.prog 72 #[.agg #[.string x.f0, .string x.f1]] w fun e w' => e = .returned (.bool (mayB x)) ∧ RowKit.Below w.heap.size w w' := by
  obtain ⟨k, hk⟩ := (may_ev x).some
  exact label_may.calls k _ _ _ w hG hk
theorem right_l0 (l : List Lb) (hs : l.length < 4611686018427387904) (r : List Lb) : ∀ j : Nat, l.drop j = r → Lab.Ev (fun k => label_Right.l0 k l l (l.length : Int) (j : Int)) (rightFrom mayB (prevN l j) r && decide (l.length ≤ 16)) := by
  induction r with
  | nil =>
    intro j h
    have hj := List.drop_eq_nil_iff.1 h
    refine Lab.Ev.done fun k => ?_
    simp only [label_Right.l0]
    rw [if_neg (by omega), rightFrom, Bool.true_and]
    exact congrArg some (decide_eq_decide.2 (by omega))
  | cons x r ih =>
    intro j h
    have hj : j < l.length := by
      rcases Nat.lt_or_ge j l.length with h1 | h1
      · exact h1
      · rw [List.drop_eq_nil_of_le h1] at h; cases h
    have he := List.drop_eq_getElem_cons hj
    rw [h] at he
    have hx : rd_T67 l (j : Int) = x := by rw [lb_rd l j hj]; exact (List.cons.inj he).1.symm
    have h3 := ih (j + 1) (List.cons.inj he).2.symm
    rw [prevN_succ l j hj, ← (List.cons.inj he).1] at h3
    have hm := may_ev x
    cases hb : mayB x with
    | false =>
      rw [hb] at hm
      simp only [rightFrom, hb, Bool.false_and]
      refine Lab.Ev.ask (g := fun t k => if t = true then (if (x.f1).toList = ([] : List UInt8) then (some false) else (if (j : Int) > 0 then (if 0 ≤ (wrap64 ((j : Int) - 1)) then (if (wrap64 ((j : Int) - 1)) < (l.length : Int) then (if ((Op.bytesLess (((rd_T67 l (wrap64 ((j : Int) - 1))).f0).toList) ((x.f0).toList)) = true) then (label_Right.l0 k l l (l.length : Int) (wrap64 ((j : Int) + 1))) else (some false)) else (none)) else (none)) else (label_Right.l0 k l l (l.length : Int) (wrap64 ((j : Int) + 1))))) else (some false)) hm Lab.Ev.const (fun k => ?_) (fun k => rfl)
      simp only [label_Right.l0]
      rw [if_pos (by omega), if_pos (by omega), if_pos (by omega), hx]
    | true =>
      rw [hb] at hm
      have key : ∀ X, Lab.Ev (fun k => (if (x.f1).toList = ([] : List UInt8) then (some false) else (if (j : Int) > 0 then (if 0 ≤ (wrap64 ((j : Int) - 1)) then (if (wrap64 ((j : Int) - 1)) < (l.length : Int) then (if ((Op.bytesLess (((rd_T67 l (wrap64 ((j : Int) - 1))).f0).toList) ((x.f0).toList)) = true) then (label_Right.l0 k l l (l.length : Int) (wrap64 ((j : Int) + 1))) else (some false)) else (none)) else (none)) else (label_Right.l0 k l l (l.length : Int) (wrap64 ((j : Int) + 1)))))) X → Lab.Ev (fun k => label_Right.l0 k l l (l.length : Int) (j : Int)) X := by
        intro X hX
        refine Lab.Ev.ask (g := fun t k => if t = true then (if (x.f1).toList = ([] : List UInt8) then (some false) else (if (j : Int) > 0 then (if 0 ≤ (wrap64 ((j : Int) - 1)) then (if (wrap64 ((j : Int) - 1)) < (l.length : Int) then (if ((Op.bytesLess (((rd_T67 l (wrap64 ((j : Int) - 1))).f0).toList) ((x.f0).toList)) = true) then (label_Right.l0 k l l (l.length : Int) (wrap64 ((j : Int) + 1))) else (some false)) else (none)) else (none)) else (label_Right.l0 k l l (l.length : Int) (wrap64 ((j : Int) + 1))))) else (some false)) hm hX (fun k => ?_) (fun k => if_pos rfl)
        simp only [label_Right.l0]
        rw [if_pos (by omega), if_pos (by omega), if_pos (by omega), hx]
      simp only [rightFrom, hb, Bool.true_and]
      refine key _ ?_
      cases hf : full x with
      | false =>
        simp only [Bool.false_and]
        exact Lab.Ev.const.eq fun k => if_pos ((full_is x).2 hf)
      | true =>
        have hne : ¬ x.f1.toList = ([] : List UInt8) := fun e => by have := (full_is x).1 e; rw [hf] at this; cases this
        rw [Bool.true_and, wrap_succ hj hs]
        cases j with
        | zero =>
          simp only [prevN, Bool.true_and]
          refine h3.eq fun k => ?_
          rw [if_neg hne, if_neg (by omega)]
        | succ i =>
          rw [prevN_succ l i (by omega)]
          simp only
          have hw : wrap64 (((i + 1 : Nat) : Int) - 1) = (i : Int) := by rw [wrap_pred (by omega) (by omega)]; rfl
          have hy : rd_T67 l (i : Int) = l[i] := lb_rd l i (by omega)
          rw [hw, hy]
          by_cases hc : cmpS l[i].f0 x.f0 < 0
          · rw [decide_eq_true hc, Bool.true_and]
            refine h3.eq fun k => ?_
            rw [if_neg hne, if_pos (by omega), if_pos (by omega), if_pos (by omega), if_pos (by rw [less_is]; exact decide_eq_true hc)]
          · rw [decide_eq_false hc, Bool.false_and, Bool.false_and]
            refine Lab.Ev.const.eq fun k => ?_
            rw [if_neg hne, if_pos (by omega), if_pos (by omega), if_pos (by omega), if_neg (by rw [less_is]; simpa using hc)]
theorem right_ev (l : List Lb) (hs : l.length < 4611686018427387904) : Lab.Ev (fun k => label_Right.f k l) (rightB mayB l) := right_l0 l hs l 0 rfl
theorem right_calls (A0 : Option Addr) (c0 : Nat) (l : List Lb) (hs : l.length < 4611686018427387904) (w : World) (hC : Kd.C k67 w A0 l.length l) (hc : l.length ≤ c0) (hG : GL w) :
    Calls Tryd.prog 67 #[.slice A0 l.length c0] w fun e w' => e = .returned (.bool (rightB mayB l)) ∧ RowKit.Below w.heap.size w w' := by
  obtain ⟨k, hk⟩ := (right_ev l hs).some
  exact label_Right.calls k A0 c0 l _ w hC hc hG hk

/-! ### label.Make -/
def mk_T : Bool × List (List Nat × List Nat) := (true, [([], []), ([0], [0]), ([1], [1]), ([2, 1], [2]), ([3], [3]), ([4, 3], [3, 4]), ([5, 3, 3], [3, 5]), ([6], [6]), ([6], [6]), ([8, 6], [6, 8]), ([7, 9, 6], [6, 7, 9]), ([10, 6], [6, 10]), ([11, 6], [6, 11]), ([6], [6]), ([13, 6], [6, 13]), ([12, 14, 6], [6, 12, 14]), ([6, 15, 3], [3, 6, 15]), ([3, 16], [3, 16])])
def mk_B : List Nat := [0, 1, 3, 7, 15, 31, 63, 127, 127, 383, 1023, 2047, 4095, 127, 8319, 32767, 65535, 131071]
theorem mk_tab : rtab .any (opsOf Tryd.f39 6) = mk_T := by kernel_rfl
theorem mk_bits : waitsOk mk_T.2 mk_B = true := by kernel_rfl
theorem del_closure (B : Nat) (w : World) : lb_Pred 74 #[] (fun x => !full x) B w := by
  intro W x hB hW
  have hx : x.f1.toList.isEmpty = !full x := by
    cases hf : full x with
    | false => rw [(full_is x).2 hf]; rfl
    | true =>
      show x.f1.toList.isEmpty = false
      rw [Bool.eq_false_iff, Ne, List.isEmpty_iff]
      intro e
      have := (full_is x).1 e
      rw [hf] at this; cases this
  have HX := Aside0.mk hx
  clear hx hB hW
  show Calls Tryd.prog 74 #[.agg #[.string x.f0, .string x.f1]] W _
  go_enter Tryd.func74, Tryd.ntmps74
  go_wp2
  go_ret
  exact ⟨congrArg (fun b => Ending.returned (.bool b)) HX.out, below_alloc (RowKit.Below.refl _ _) _⟩
def label_Make.f (l0 : List S67) : Option (List S67 × Option Int) := if l0.length * 32 ≤ 140737488355328 then some (mkL mayB l0) else none
set_option maxRecDepth 100000 in
set_option maxHeartbeats 8000000 in
theorem label_Make.calls (A0 : Option Addr) (c0 : Nat) (l0 : List S67) (r1 : List S67) (r2 : Option Int) (w : World) (hr0 : Kd.C k67 w A0 l0.length l0) (hc0 : l0.length ≤ c0) (hG : GL w) (h : label_Make.f l0 = some (r1, r2)) :
    Calls Tryd.prog 39 #[.slice A0 l0.length c0] w fun e w' => ∃ v0_ : Value, e = .returned (.tuple #[v0_, errW r2]) ∧ Kd.R k67 67 w' w.heap.size (fun _ => True) v0_ r1 ∧ RowKit.Below w.heap.size w w' := by
  unfold label_Make.f at h
  split at h
  rotate_left
  · cases h
  rename_i hsz
  have h := Option.some.inj h
  have HG := Aside0.mk hG
  have HCL := Aside0.mk (lb_clone A0 c0 l0 w hr0 hsz)
  have hlen : (sortF ordL l0).length = l0.length := (sortF_perm l0).length_eq
  obtain ⟨s, hs⟩ : ∃ s, s = sortF ordL l0 := ⟨_, rfl⟩
  have hsl : s.length < 4611686018427387904 := by rw [hs, hlen]; omega
  have HR : Aside0 ((r1, r2) = if okFrom mayB none s = true then (if rightB mayB (s.filter full) = true then (s.filter full, none) else ([], some 1)) else ([], some 1)) := ⟨by rw [← h, hs]; rfl⟩
  have HST : Aside0 (∀ v W, w.heap.size ≤ W.heap.size → Kd.R k67 67 W w.heap.size (fun _ => True) v l0 → Calls Tryd.prog 70 #[v, .func (.func 71) #[] #[]] W fun e w' => e = .returned (.tuple #[]) ∧ Kd.R k67 67 w' w.heap.size (fun _ => True) v s ∧ RowKit.Below w.heap.size W w') := ⟨fun v W h1 h2 => by rw [hs]; exact sort_calls v l0 w.heap.size W h1 h2 (by omega)⟩
  clear hG hr0 h hlen hs hsz
  go_enter Tryd.func39, Tryd.ntmps39
  go_wp2_with (first
    | (go_at_call 69; refine HCL.out.mono ?_; rintro e w1 ⟨v1, rfl, hR1, hB1⟩; have HR1 := Aside0.mk hR1; have HB1 := Aside0.mk hB1; clear hR1 hB1)
    | (go_at_call 70; refine (HST.out _ _ HB1.out.size HR1.out).mono ?_; rintro e w2 ⟨rfl, hR2, hB2⟩; have HR2 := Aside0.mk hR2; have HB2 : Aside0 (RowKit.Below w.heap.size w w2) := ⟨HB1.out.trans hB2⟩; clear hR2 hB2; obtain ⟨A, c, hv, hlc, hC⟩ := Kd.R_reads HR2.out; subst hv; have HC := Aside0.mk hC; clear hC))
  have HG2 : Aside0 (GL w2) := ⟨HG.out.below HB2.out⟩
  have hn : s.length ≤ 9223372036854775807 := by omega
  have HSL := Aside0.mk hsl
  clear HCL HST HB1 HR1 hsl
  go_loopg [13] s.length (fun kx s13 wr => ∃ j : Nat, s13 = .int .i64 j ∧ j ≤ s.length ∧ s.length - j ≤ kx ∧ Aside0 (RowKit.Below w2.heap.size w2 wr) ∧ Aside0 (okFrom mayB none s = okFrom mayB (prevN s j) (s.drop j)))
  case atStart => exact ⟨0, rfl, by omega, by omega, ⟨RowKit.Below.refl _ _⟩, ⟨rfl⟩⟩
  case round =>
    obtain ⟨j, rfl, hj, hg, HW, I⟩ := hrel
    by_cases hlt : j < s.length
    · have HCr := Aside0.mk (Kd.C_below HC.out HW.out)
      obtain ⟨ad, rfl, hx0, hx1⟩ := at_T67 HCr.out j (by omega) (by omega)
      rw [Int.toNat_natCast] at hx0 hx1
      have er : Aside0 (rd_T67 s (j : Int) = s[j]) := ⟨lb_rd s j hlt⟩
      generalize rd_T67 s (j : Int) = x at hx0 hx1 er
      have HD : Aside0 (s.drop j = x :: s.drop (j + 1)) := ⟨by rw [List.drop_eq_getElem_cons hlt, er.out]⟩
      have HM : Aside0 (∀ W, RowKit.Below w2.heap.size w2 W → Calls Tryd.prog 72 #[.agg #[.string x.f0, .string x.f1]] W fun e w' => e = .returned (.bool (mayB x)) ∧ RowKit.Below W.heap.size W w') := ⟨fun W hW => may_calls x W (HG2.out.below hW)⟩
      have HB0 : Aside0 (RowKit.Below w2.heap.size w2 (wr.alloc (.cells #[.string x.f0, .string x.f1] 67)).drew) := ⟨below_drew1 (below_alloc HW.out _)⟩
      cases hmay : mayB x with
      | false =>
        rw [hmay] at HM
        have HE : Aside0 ((r1, r2) = ([], some 1)) := ⟨by rw [HR.out, I.out, HD.out]; simp only [okFrom, hmay, Bool.false_and, Bool.false_eq_true, if_false]⟩
        clear I HD hmay HR
        go_wp2
        refine start_ (n := 18) (S := (fun w' => w'.cell? ⟨wr.heap.size, 0, none⟩ = some (.string x.f0) ∧ w'.cell? ⟨wr.heap.size, 1, none⟩ = some (.string x.f1))) (ds := []) #[false, false, false, false, false, false, false, false, false, false, false, false, false, false, false, false, false, false] (by kernel_rfl) rfl rfl ⟨by simp, by simp⟩ (fun hHeld => ?_)
        refine with_tabW mk_tab mk_bits (fun HT_ HW_ => ?_)
        refine take_ (i := 0) (N := some 18) (v := ?_) (a' := ?_) (Less.bv 18 1) rfl rfl (take_ofW HT_.out HW_.out (by kernel_rfl)) (fun _ _ _ h => h) (Or.inl ⟨by rfl, ?_⟩) hHeld ?_ ?_
        rotate_left
        · rintro w' ⟨s0, s1⟩
          go_simp
          with_reducible rfl
        rotate_left
        · simp only [Act.put, Less.p1, Less.p2, Less.p3, i64_w, i32_w]
          rfl
        refine one_ (i := 1) (N := some 19) (Less.bv 18 3) rfl rfl (one_of HT_.out (by kernel_rfl)) (by decide) (fun K hK => ?_)
        refine goes_ Tryd.func72 (by kernel_rfl) rfl #[.agg #[.string x.f0, .string x.f1]] (by rfl) rfl rfl (by (try simp only [List.map_toArray, List.map_cons, List.map_nil]); first | done | rfl | (simp only [List.length_drop, List.length_take]; rfl)) ?_
        refine (HM.out _ HB0.out).mono ?_
        rintro e w3 ⟨rfl, hb⟩
        have HB3 : Aside0 (RowKit.Below w2.heap.size w2 w3) := ⟨below_then HB0.out HB0.out.size hb⟩
        refine ⟨_, rfl, ?_⟩
        obtain ⟨s0, s1⟩ := hHeld
        refine hK.out _ _ ⟨pw_cell_below hb s0, pw_cell_below hb s1⟩ (fun hHeld => ?_)
        clear hK K
        refine norm_ (a' := ?_) ?_ ?_
        rotate_left
        · show Act.put _ (some 19) _ = _
          simp only [Act.put, Less.p1, Less.p2, Less.p3, i64_w, i32_w]
          rfl
        refine pure_ (i := 2) (N := some 20) (v := ?_) (a' := ?_) (Less.bv 18 7) rfl rfl (any_of HT_.out (by kernel_rfl)) (fun _ _ _ h => h) (Or.inl ⟨by rfl, ?_⟩) ?_ ?_
        rotate_left
        · intro w'
          go_simp
          with_reducible rfl
        rotate_left
        · simp only [Act.put, Less.p1, Less.p2, Less.p3, i64_w, i32_w]
          rfl
        refine pure_ (i := 3) (N := some 21) (v := ?_) (a' := ?_) (Less.bv 18 15) rfl rfl (any_of HT_.out (by kernel_rfl)) (fun _ _ _ h => h) (Or.inl ⟨by rfl, ?_⟩) ?_ ?_
        rotate_left
        · intro w'
          go_simp
          with_reducible rfl
        rotate_left
        · simp only [Act.put, Less.p1, Less.p2, Less.p3, i64_w, i32_w]
          rfl
        refine pure_ (i := 4) (N := some 22) (v := undef) (a' := ?_) (Less.bv 18 31) rfl rfl (any_of HT_.out (by kernel_rfl)) (fun _ _ _ h => h) (Or.inr ⟨by rfl, rfl⟩) ?_ ?_
        rotate_left
        · simp only [Act.put, Less.p1, Less.p2, Less.p3, i64_w, i32_w]
          rfl
        refine pure_ (i := 5) (N := some 23) (v := undef) (a' := ?_) (Less.bv 18 63) rfl rfl (any_of HT_.out (by kernel_rfl)) (fun _ _ _ h => h) (Or.inr ⟨by rfl, rfl⟩) ?_ ?_
        rotate_left
        · simp only [Act.put, Less.p1, Less.p2, Less.p3, i64_w, i32_w]
          rfl
        refine pure_ (i := 6) (N := some 24) (v := undef) (a' := ?_) (Less.bv 18 127) rfl rfl (any_of HT_.out (by kernel_rfl)) (fun _ _ _ h => h) (Or.inr ⟨by rfl, rfl⟩) ?_ ?_
        rotate_left
        · simp only [Act.put, Less.p1, Less.p2, Less.p3, i64_w, i32_w]
          rfl
        refine pure_ (i := 7) (N := some 25) (v := undef) (a' := ?_) (Less.bv 18 255) rfl rfl (any_of HT_.out (by kernel_rfl)) (fun _ _ _ h => h) (Or.inr ⟨by rfl, rfl⟩) ?_ ?_
        rotate_left
        · simp only [Act.put, Less.p1, Less.p2, Less.p3, i64_w, i32_w]
          rfl
        refine pure_ (i := 8) (N := some 26) (v := undef) (a' := ?_) (Less.bv 18 511) rfl rfl (any_of HT_.out (by kernel_rfl)) (fun _ _ _ h => h) (Or.inr ⟨by rfl, rfl⟩) ?_ ?_
        rotate_left
        · simp only [Act.put, Less.p1, Less.p2, Less.p3, i64_w, i32_w]
          rfl
        refine pure_ (i := 9) (N := some 27) (v := undef) (a' := ?_) (Less.bv 18 1023) rfl rfl (any_of HT_.out (by kernel_rfl)) (fun _ _ _ h => h) (Or.inr ⟨by rfl, rfl⟩) ?_ ?_
        rotate_left
        · simp only [Act.put, Less.p1, Less.p2, Less.p3, i64_w, i32_w]
          rfl
        refine pure_ (i := 10) (N := some 28) (v := undef) (a' := ?_) (Less.bv 18 2047) rfl rfl (any_of HT_.out (by kernel_rfl)) (fun _ _ _ h => h) (Or.inr ⟨by rfl, rfl⟩) ?_ ?_
        rotate_left
        · simp only [Act.put, Less.p1, Less.p2, Less.p3, i64_w, i32_w]
          rfl
        refine pure_ (i := 11) (N := some 29) (v := undef) (a' := ?_) (Less.bv 18 4095) rfl rfl (any_of HT_.out (by kernel_rfl)) (fun _ _ _ h => h) (Or.inr ⟨by rfl, rfl⟩) ?_ ?_
        rotate_left
        · simp only [Act.put, Less.p1, Less.p2, Less.p3, i64_w, i32_w]
          rfl
        refine pure_ (i := 12) (N := some 30) (v := undef) (a' := ?_) (Less.bv 18 8191) rfl rfl (any_of HT_.out (by kernel_rfl)) (fun _ _ _ h => h) (Or.inr ⟨by rfl, rfl⟩) ?_ ?_
        rotate_left
        · simp only [Act.put, Less.p1, Less.p2, Less.p3, i64_w, i32_w]
          rfl
        refine pure_ (i := 13) (N := some 31) (v := undef) (a' := ?_) (Less.bv 18 16383) rfl rfl (any_of HT_.out (by kernel_rfl)) (fun _ _ _ h => h) (Or.inr ⟨by rfl, rfl⟩) ?_ ?_
        rotate_left
        · simp only [Act.put, Less.p1, Less.p2, Less.p3, i64_w, i32_w]
          rfl
        refine pure_ (i := 14) (N := some 32) (v := undef) (a' := ?_) (Less.bv 18 32767) rfl rfl (any_of HT_.out (by kernel_rfl)) (fun _ _ _ h => h) (Or.inr ⟨by rfl, rfl⟩) ?_ ?_
        rotate_left
        · simp only [Act.put, Less.p1, Less.p2, Less.p3, i64_w, i32_w]
          rfl
        refine pure_ (i := 15) (N := some 33) (v := undef) (a' := ?_) (Less.bv 18 65535) rfl rfl (any_of HT_.out (by kernel_rfl)) (fun _ _ _ h => h) (Or.inr ⟨by rfl, rfl⟩) ?_ ?_
        rotate_left
        · simp only [Act.put, Less.p1, Less.p2, Less.p3, i64_w, i32_w]
          rfl
        refine pure_ (i := 16) (N := some 34) (v := undef) (a' := ?_) (Less.bv 18 131071) rfl rfl (any_of HT_.out (by kernel_rfl)) (fun _ _ _ h => h) (Or.inr ⟨by rfl, rfl⟩) ?_ ?_
        rotate_left
        · simp only [Act.put, Less.p1, Less.p2, Less.p3, i64_w, i32_w]
          rfl
        refine pure_ (i := 17) (N := some 35) (v := ?_) (a' := ?_) (Less.bv 18 262143) rfl rfl (any_of HT_.out (by kernel_rfl)) (fun _ _ _ h => h) (Or.inl ⟨by rfl, ?_⟩) ?_ ?_
        rotate_left
        · intro w'
          go_simp
          with_reducible rfl
        rotate_left
        · simp only [Act.put, Less.p1, Less.p2, Less.p3, i64_w, i32_w]
          rfl
        refine done_ (done_of HT_.out (by kernel_rfl)) ?_
        go_wp2
        go_ret2
        have he := HE.out
        simp only [Prod.mk.injEq] at he
        exact ⟨.slice none 0 0, by rw [he.2]; rfl, by rw [he.1]; exact Kd.R_nil _ _ _ _ _, HB2.out.trans (HB3.out.mono HB2.out.size)⟩
      | true =>
        rw [hmay] at HM
        by_cases hz : j = 0
        · have hjp : ((0 : Int) < (j : Int)) = False := eq_false (by omega)
          have hjn : (0 < j) = False := eq_false (by omega)
          have hp0 : prevN s j = none := by rw [hz]; rfl
          have I2 : Aside0 (okFrom mayB none s = okFrom mayB (prevN s (j + 1)) (s.drop (j + 1))) := ⟨by
            rw [I.out, HD.out, prevN_succ s j hlt, ← er.out, hp0]
            simp only [okFrom, hmay, Bool.true_and]
            simp⟩
          have hg2 : s.length - (j + 1) < gk ∧ j + 1 ≤ s.length ∧ 0 < s.length - j := by omega
          clear hz hp0
          clear I HD hmay
          go_wp2
          refine start_ (n := 18) (S := (fun w' => w'.cell? ⟨wr.heap.size, 0, none⟩ = some (.string x.f0) ∧ w'.cell? ⟨wr.heap.size, 1, none⟩ = some (.string x.f1))) (ds := []) #[false, false, false, false, false, false, false, false, false, false, false, false, false, false, false, false, false, false] (by kernel_rfl) rfl rfl ⟨by simp, by simp⟩ (fun hHeld => ?_)
          refine with_tabW mk_tab mk_bits (fun HT_ HW_ => ?_)
          refine take_ (i := 0) (N := some 18) (v := ?_) (a' := ?_) (Less.bv 18 1) rfl rfl (take_ofW HT_.out HW_.out (by kernel_rfl)) (fun _ _ _ h => h) (Or.inl ⟨by rfl, ?_⟩) hHeld ?_ ?_
          rotate_left
          · rintro w' ⟨s0, s1⟩
            go_simp
            with_reducible rfl
          rotate_left
          · simp only [Act.put, Less.p1, Less.p2, Less.p3, i64_w, i32_w]
            rfl
          refine one_ (i := 1) (N := some 19) (Less.bv 18 3) rfl rfl (one_of HT_.out (by kernel_rfl)) (by decide) (fun K hK => ?_)
          refine goes_ Tryd.func72 (by kernel_rfl) rfl #[.agg #[.string x.f0, .string x.f1]] (by rfl) rfl rfl (by (try simp only [List.map_toArray, List.map_cons, List.map_nil]); first | done | rfl | (simp only [List.length_drop, List.length_take]; rfl)) ?_
          refine (HM.out _ HB0.out).mono ?_
          rintro e w3 ⟨rfl, hb⟩
          have HB3 : Aside0 (RowKit.Below w2.heap.size w2 w3) := ⟨below_then HB0.out HB0.out.size hb⟩
          refine ⟨_, rfl, ?_⟩
          obtain ⟨s0, s1⟩ := hHeld
          refine hK.out _ _ ⟨pw_cell_below hb s0, pw_cell_below hb s1⟩ (fun hHeld => ?_)
          clear hK K
          refine norm_ (a' := ?_) ?_ ?_
          rotate_left
          · show Act.put _ (some 19) _ = _
            simp only [Act.put, Less.p1, Less.p2, Less.p3, i64_w, i32_w]
            rfl
          refine pure_ (i := 2) (N := some 20) (v := ?_) (a' := ?_) (Less.bv 18 7) rfl rfl (any_of HT_.out (by kernel_rfl)) (fun _ _ _ h => h) (Or.inl ⟨by rfl, ?_⟩) ?_ ?_
          rotate_left
          · intro w'
            go_simp
            with_reducible rfl
          rotate_left
          · simp only [Act.put, Less.p1, Less.p2, Less.p3, i64_w, i32_w]
            rfl
          refine pure_ (i := 3) (N := some 21) (v := ?_) (a' := ?_) (Less.bv 18 15) rfl rfl (any_of HT_.out (by kernel_rfl)) (fun _ _ _ h => h) (Or.inl ⟨by rfl, ?_⟩) ?_ ?_
          rotate_left
          · intro w'
            go_simp
            with_reducible rfl
          rotate_left
          · simp only [Act.put, Less.p1, Less.p2, Less.p3, i64_w, i32_w]
            rfl
          refine pure_ (i := 4) (N := some 22) (v := ?_) (a' := ?_) (Less.bv 18 31) rfl rfl (any_of HT_.out (by kernel_rfl)) (fun _ _ _ h => h) (Or.inl ⟨by rfl, ?_⟩) ?_ ?_
          rotate_left
          · intro w'
            go_simp
            with_reducible rfl
          rotate_left
          · simp only [Act.put, Less.p1, Less.p2, Less.p3, i64_w, i32_w]
            rfl
          refine pure_ (i := 5) (N := some 23) (v := ?_) (a' := ?_) (Less.bv 18 63) rfl rfl (any_of HT_.out (by kernel_rfl)) (fun _ _ _ h => h) (Or.inl ⟨by rfl, ?_⟩) ?_ ?_
          rotate_left
          · intro w'
            go_simp
            with_reducible rfl
          rotate_left
          · simp only [Act.put, Less.p1, Less.p2, Less.p3, i64_w, i32_w]
            rfl
          refine pure_ (i := 6) (N := some 24) (v := ?_) (a' := ?_) (Less.bv 18 127) rfl rfl (any_of HT_.out (by kernel_rfl)) (fun _ _ _ h => h) (Or.inl ⟨by rfl, ?_⟩) ?_ ?_
          rotate_left
          · intro w'
            go_simp
            with_reducible rfl
          rotate_left
          · simp only [Act.put, Less.p1, Less.p2, Less.p3, i64_w, i32_w]
            rfl
          refine pure_ (i := 7) (N := some 25) (v := undef) (a' := ?_) (Less.bv 18 255) rfl rfl (any_of HT_.out (by kernel_rfl)) (fun _ _ _ h => h) (Or.inr ⟨by rfl, rfl⟩) ?_ ?_
          rotate_left
          · simp only [Act.put, Less.p1, Less.p2, Less.p3, i64_w, i32_w]
            rfl
          refine pure_ (i := 8) (N := some 26) (v := undef) (a' := ?_) (Less.bv 18 511) rfl rfl (any_of HT_.out (by kernel_rfl)) (fun _ _ _ h => h) (Or.inr ⟨by rfl, rfl⟩) ?_ ?_
          rotate_left
          · simp only [Act.put, Less.p1, Less.p2, Less.p3, i64_w, i32_w]
            rfl
          refine pure_ (i := 9) (N := some 27) (v := undef) (a' := ?_) (Less.bv 18 1023) rfl rfl (any_of HT_.out (by kernel_rfl)) (fun _ _ _ h => h) (Or.inr ⟨by rfl, rfl⟩) ?_ ?_
          rotate_left
          · simp only [Act.put, Less.p1, Less.p2, Less.p3, i64_w, i32_w]
            rfl
          refine pure_ (i := 10) (N := some 28) (v := undef) (a' := ?_) (Less.bv 18 2047) rfl rfl (any_of HT_.out (by kernel_rfl)) (fun _ _ _ h => h) (Or.inr ⟨by rfl, rfl⟩) ?_ ?_
          rotate_left
          · simp only [Act.put, Less.p1, Less.p2, Less.p3, i64_w, i32_w]
            rfl
          refine pure_ (i := 11) (N := some 29) (v := undef) (a' := ?_) (Less.bv 18 4095) rfl rfl (any_of HT_.out (by kernel_rfl)) (fun _ _ _ h => h) (Or.inr ⟨by rfl, rfl⟩) ?_ ?_
          rotate_left
          · simp only [Act.put, Less.p1, Less.p2, Less.p3, i64_w, i32_w]
            rfl
          refine pure_ (i := 12) (N := some 30) (v := undef) (a' := ?_) (Less.bv 18 8191) rfl rfl (any_of HT_.out (by kernel_rfl)) (fun _ _ _ h => h) (Or.inr ⟨by rfl, rfl⟩) ?_ ?_
          rotate_left
          · simp only [Act.put, Less.p1, Less.p2, Less.p3, i64_w, i32_w]
            rfl
          refine pure_ (i := 13) (N := some 31) (v := undef) (a' := ?_) (Less.bv 18 16383) rfl rfl (any_of HT_.out (by kernel_rfl)) (fun _ _ _ h => h) (Or.inr ⟨by rfl, rfl⟩) ?_ ?_
          rotate_left
          · simp only [Act.put, Less.p1, Less.p2, Less.p3, i64_w, i32_w]
            rfl
          refine pure_ (i := 14) (N := some 32) (v := undef) (a' := ?_) (Less.bv 18 32767) rfl rfl (any_of HT_.out (by kernel_rfl)) (fun _ _ _ h => h) (Or.inr ⟨by rfl, rfl⟩) ?_ ?_
          rotate_left
          · simp only [Act.put, Less.p1, Less.p2, Less.p3, i64_w, i32_w]
            rfl
          refine pure_ (i := 15) (N := some 33) (v := undef) (a' := ?_) (Less.bv 18 65535) rfl rfl (any_of HT_.out (by kernel_rfl)) (fun _ _ _ h => h) (Or.inr ⟨by rfl, rfl⟩) ?_ ?_
          rotate_left
          · simp only [Act.put, Less.p1, Less.p2, Less.p3, i64_w, i32_w]
            rfl
          refine pure_ (i := 16) (N := some 34) (v := ?_) (a' := ?_) (Less.bv 18 131071) rfl rfl (any_of HT_.out (by kernel_rfl)) (fun _ _ _ h => h) (Or.inl ⟨by rfl, ?_⟩) ?_ ?_
          rotate_left
          · intro w'
            go_simp
            with_reducible rfl
          rotate_left
          · simp only [Act.put, Less.p1, Less.p2, Less.p3, i64_w, i32_w]
            rfl
          refine pure_ (i := 17) (N := some 35) (v := ?_) (a' := ?_) (Less.bv 18 262143) rfl rfl (any_of HT_.out (by kernel_rfl)) (fun _ _ _ h => h) (Or.inl ⟨by rfl, ?_⟩) ?_ ?_
          rotate_left
          · intro w'
            go_simp
            with_reducible rfl
          rotate_left
          · simp only [Act.put, Less.p1, Less.p2, Less.p3, i64_w, i32_w]
            rfl
          refine done_ (done_of HT_.out (by kernel_rfl)) ?_
          go_wp2
          go_roundg (s.length - (j + 1))
          case measure => omega
          case rel => exact ⟨j + 1, by go_num, by omega, by omega, HB3, I2⟩
        · obtain ⟨q, hq⟩ : ∃ q, q + 1 = j := ⟨j - 1, by omega⟩
          have hqs : q < s.length := by omega
          obtain ⟨ad2, had, hy0, _⟩ := at_T67 HCr.out q (by omega) (by omega)
          cases had
          rw [Int.toNat_natCast] at hy0
          have fr : Aside0 (rd_T67 s (q : Int) = s[q]) := ⟨lb_rd s q hqs⟩
          generalize rd_T67 s (q : Int) = y at hy0 fr
          have hyd : ((wr.alloc (.cells #[.string x.f0, .string x.f1] 67)).drew).cell? (ad.add (q * 2)) = some (.string y.f0) := pw_cell_below (below_drew1 (below_alloc (RowKit.Below.refl _ _) _)) hy0
          have HP : Aside0 (prevN s j = some y.f0) := ⟨by rw [← hq, prevN_succ s q hqs, fr.out]⟩
          have hji : wrap64 ((j : Int) - 1) = (q : Int) := by unfold wrap64; omega
          have hjw : IntKind.i64.wrap ((j : Int) - 1) = (q : Int) := by rw [i64_w]; exact hji
          have hq0 : ((q : Int) < (s.length : Int)) = True := eq_true (by omega)
          have hjp : ((0 : Int) < (j : Int)) = True := eq_true (by omega)
          have hjn : (0 < j) = True := eq_true (by omega)
          have hqn : (q < s.length) = True := eq_true (by omega)
          by_cases hne : y.f0 = x.f0
          · have hb1 : (y.f0.toList == x.f0.toList) = true := by rw [hne]; simp
            have HE : Aside0 ((r1, r2) = ([], some 1)) := ⟨by
              rw [HR.out, I.out, HD.out, HP.out]
              simp only [okFrom, hmay, Bool.true_and]
              rw [decide_eq_false (by rw [hne]; simp)]
              simp⟩
            clear I HD hmay HR hy0 hq hne HP
            go_wp2
            refine start_ (n := 18) (S := (fun w' => w'.cell? ⟨wr.heap.size, 0, none⟩ = some (.string x.f0) ∧ w'.cell? ⟨wr.heap.size, 1, none⟩ = some (.string x.f1) ∧ w'.cell? (ad.add (q * 2)) = some (.string y.f0))) (ds := []) #[false, false, false, false, false, false, false, false, false, false, false, false, false, false, false, false, false, false] (by kernel_rfl) rfl rfl ⟨by simp, by simp, hyd⟩ (fun hHeld => ?_)
            refine with_tabW mk_tab mk_bits (fun HT_ HW_ => ?_)
            refine take_ (i := 0) (N := some 18) (v := ?_) (a' := ?_) (Less.bv 18 1) rfl rfl (take_ofW HT_.out HW_.out (by kernel_rfl)) (fun _ _ _ h => h) (Or.inl ⟨by rfl, ?_⟩) hHeld ?_ ?_
            rotate_left
            · rintro w' ⟨s0, s1, s2⟩
              go_simp
              with_reducible rfl
            rotate_left
            · simp only [Act.put, Less.p1, Less.p2, Less.p3, i64_w, i32_w]
              rfl
            refine one_ (i := 1) (N := some 19) (Less.bv 18 3) rfl rfl (one_of HT_.out (by kernel_rfl)) (by decide) (fun K hK => ?_)
            refine goes_ Tryd.func72 (by kernel_rfl) rfl #[.agg #[.string x.f0, .string x.f1]] (by rfl) rfl rfl (by (try simp only [List.map_toArray, List.map_cons, List.map_nil]); first | done | rfl | (simp only [List.length_drop, List.length_take]; rfl)) ?_
            refine (HM.out _ HB0.out).mono ?_
            rintro e w3 ⟨rfl, hb⟩
            have HB3 : Aside0 (RowKit.Below w2.heap.size w2 w3) := ⟨below_then HB0.out HB0.out.size hb⟩
            refine ⟨_, rfl, ?_⟩
            obtain ⟨s0, s1, s2⟩ := hHeld
            refine hK.out _ _ ⟨pw_cell_below hb s0, pw_cell_below hb s1, pw_cell_below hb s2⟩ (fun hHeld => ?_)
            clear hK K
            refine norm_ (a' := ?_) ?_ ?_
            rotate_left
            · show Act.put _ (some 19) _ = _
              simp only [Act.put, Less.p1, Less.p2, Less.p3, i64_w, i32_w]
              rfl
            refine pure_ (i := 2) (N := some 20) (v := ?_) (a' := ?_) (Less.bv 18 7) rfl rfl (any_of HT_.out (by kernel_rfl)) (fun _ _ _ h => h) (Or.inl ⟨by rfl, ?_⟩) ?_ ?_
            rotate_left
            · intro w'
              go_simp
              with_reducible rfl
            rotate_left
            · simp only [Act.put, Less.p1, Less.p2, Less.p3, i64_w, i32_w]
              rfl
            refine pure_ (i := 3) (N := some 21) (v := ?_) (a' := ?_) (Less.bv 18 15) rfl rfl (any_of HT_.out (by kernel_rfl)) (fun _ _ _ h => h) (Or.inl ⟨by rfl, ?_⟩) ?_ ?_
            rotate_left
            · intro w'
              go_simp
              with_reducible rfl
            rotate_left
            · simp only [Act.put, Less.p1, Less.p2, Less.p3, i64_w, i32_w]
              rfl
            refine pure_ (i := 4) (N := some 22) (v := ?_) (a' := ?_) (Less.bv 18 31) rfl rfl (any_of HT_.out (by kernel_rfl)) (fun _ _ _ h => h) (Or.inl ⟨by rfl, ?_⟩) ?_ ?_
            rotate_left
            · intro w'
              go_simp
              with_reducible rfl
            rotate_left
            · simp only [Act.put, Less.p1, Less.p2, Less.p3, i64_w, i32_w]
              rfl
            refine pure_ (i := 5) (N := some 23) (v := ?_) (a' := ?_) (Less.bv 18 63) rfl rfl (any_of HT_.out (by kernel_rfl)) (fun _ _ _ h => h) (Or.inl ⟨by rfl, ?_⟩) ?_ ?_
            rotate_left
            · intro w'
              go_simp
              with_reducible rfl
            rotate_left
            · simp only [Act.put, Less.p1, Less.p2, Less.p3, i64_w, i32_w]
              rfl
            refine pure_ (i := 6) (N := some 24) (v := ?_) (a' := ?_) (Less.bv 18 127) rfl rfl (any_of HT_.out (by kernel_rfl)) (fun _ _ _ h => h) (Or.inl ⟨by rfl, ?_⟩) ?_ ?_
            rotate_left
            · intro w'
              go_simp
              with_reducible rfl
            rotate_left
            · simp only [Act.put, Less.p1, Less.p2, Less.p3, i64_w, i32_w]
              rfl
            refine pure_ (i := 7) (N := some 25) (v := ?_) (a' := ?_) (Less.bv 18 255) rfl rfl (any_of HT_.out (by kernel_rfl)) (fun _ _ _ h => h) (Or.inl ⟨by rfl, ?_⟩) ?_ ?_
            rotate_left
            · intro w'
              go_simp
              with_reducible rfl
            rotate_left
            · simp only [Act.put, Less.p1, Less.p2, Less.p3, i64_w, i32_w]
              rfl
            refine pure_ (i := 8) (N := some 26) (v := ?_) (a' := ?_) (Less.bv 18 511) rfl rfl (any_of HT_.out (by kernel_rfl)) (fun _ _ _ h => h) (Or.inl ⟨by rfl, ?_⟩) ?_ ?_
            rotate_left
            · intro w'
              go_simp
              with_reducible rfl
            rotate_left
            · simp only [Act.put, Less.p1, Less.p2, Less.p3, i64_w, i32_w]
              rfl
            refine pure_ (i := 9) (N := some 27) (v := ?_) (a' := ?_) (Less.bv 18 1023) rfl rfl (any_of HT_.out (by kernel_rfl)) (fun _ _ _ h => h) (Or.inl ⟨by rfl, ?_⟩) ?_ ?_
            rotate_left
            · intro w'
              go_simp
              with_reducible rfl
            rotate_left
            · simp only [Act.put, Less.p1, Less.p2, Less.p3, i64_w, i32_w]
              rfl
            refine pure_ (i := 10) (N := some 28) (v := ?_) (a' := ?_) (Less.bv 18 2047) rfl rfl (any_of HT_.out (by kernel_rfl)) (fun _ _ _ h => h) (Or.inl ⟨by rfl, ?_⟩) ?_ ?_
            rotate_left
            · intro w'
              go_simp
              with_reducible rfl
            rotate_left
            · simp only [Act.put, Less.p1, Less.p2, Less.p3, i64_w, i32_w]
              rfl
            refine pure_ (i := 11) (N := some 29) (v := ?_) (a' := ?_) (Less.bv 18 4095) rfl rfl (any_of HT_.out (by kernel_rfl)) (fun _ _ _ h => h) (Or.inl ⟨by rfl, ?_⟩) ?_ ?_
            rotate_left
            · intro w'
              go_simp
              with_reducible rfl
            rotate_left
            · simp only [Act.put, Less.p1, Less.p2, Less.p3, i64_w, i32_w]
              rfl
            refine take_ (i := 12) (N := some 30) (v := ?_) (a' := ?_) (Less.bv 18 8191) rfl rfl (take_ofW HT_.out HW_.out (by kernel_rfl)) (fun _ _ _ h => h) (Or.inl ⟨by rfl, ?_⟩) hHeld ?_ ?_
            rotate_left
            · rintro w' ⟨s0, s1, s2⟩
              go_simp
              with_reducible rfl
            rotate_left
            · simp only [Act.put, Less.p1, Less.p2, Less.p3, i64_w, i32_w]
              rfl
            refine pure_ (i := 13) (N := some 31) (v := ?_) (a' := ?_) (Less.bv 18 16383) rfl rfl (any_of HT_.out (by kernel_rfl)) (fun _ _ _ h => h) (Or.inl ⟨by rfl, ?_⟩) ?_ ?_
            rotate_left
            · intro w'
              go_simp
              with_reducible rfl
            rotate_left
            · simp only [Act.put, Less.p1, Less.p2, Less.p3, i64_w, i32_w]
              rfl
            refine take_ (i := 14) (N := some 32) (v := ?_) (a' := ?_) (Less.bv 18 32767) rfl rfl (take_ofW HT_.out HW_.out (by kernel_rfl)) (fun _ _ _ h => h) (Or.inl ⟨by rfl, ?_⟩) hHeld ?_ ?_
            rotate_left
            · rintro w' ⟨s0, s1, s2⟩
              go_simp
              with_reducible rfl
            rotate_left
            · simp only [Act.put, Less.p1, Less.p2, Less.p3, i64_w, i32_w]
              rfl
            refine pure_ (i := 15) (N := some 33) (v := ?_) (a' := ?_) (Less.bv 18 65535) rfl rfl (any_of HT_.out (by kernel_rfl)) (fun _ _ _ h => h) (Or.inl ⟨by rfl, ?_⟩) ?_ ?_
            rotate_left
            · intro w'
              go_simp
              with_reducible rfl
            rotate_left
            · simp only [Act.put, Less.p1, Less.p2, Less.p3, i64_w, i32_w]
              rfl
            refine pure_ (i := 16) (N := some 34) (v := ?_) (a' := ?_) (Less.bv 18 131071) rfl rfl (any_of HT_.out (by kernel_rfl)) (fun _ _ _ h => h) (Or.inl ⟨by rfl, ?_⟩) ?_ ?_
            rotate_left
            · intro w'
              go_simp
              with_reducible rfl
            rotate_left
            · simp only [Act.put, Less.p1, Less.p2, Less.p3, i64_w, i32_w]
              rfl
            refine pure_ (i := 17) (N := some 35) (v := ?_) (a' := ?_) (Less.bv 18 262143) rfl rfl (any_of HT_.out (by kernel_rfl)) (fun _ _ _ h => h) (Or.inl ⟨by rfl, ?_⟩) ?_ ?_
            rotate_left
            · intro w'
              go_simp
              with_reducible rfl
            rotate_left
            · simp only [Act.put, Less.p1, Less.p2, Less.p3, i64_w, i32_w]
              rfl
            refine done_ (done_of HT_.out (by kernel_rfl)) ?_
            go_wp2
            go_ret2
            have he := HE.out
            simp only [Prod.mk.injEq] at he
            exact ⟨.slice none 0 0, by rw [he.2]; rfl, by rw [he.1]; exact Kd.R_nil _ _ _ _ _, HB2.out.trans (HB3.out.mono HB2.out.size)⟩
          · have hb1 : (y.f0.toList == x.f0.toList) = false := by rw [beq_eq_false_iff_ne, Ne, toList_eq]; exact hne
            have I2 : Aside0 (okFrom mayB none s = okFrom mayB (prevN s (j + 1)) (s.drop (j + 1))) := ⟨by
              rw [I.out, HD.out, HP.out, prevN_succ s j hlt, ← er.out]
              simp only [okFrom, hmay, Bool.true_and]
              rw [decide_eq_true (by simpa using hne), Bool.true_and]⟩
            have hg2 : s.length - (j + 1) < gk ∧ j + 1 ≤ s.length ∧ 0 < s.length - j := by omega
            clear I HD hmay hy0 hq hne HP
            go_wp2
            refine start_ (n := 18) (S := (fun w' => w'.cell? ⟨wr.heap.size, 0, none⟩ = some (.string x.f0) ∧ w'.cell? ⟨wr.heap.size, 1, none⟩ = some (.string x.f1) ∧ w'.cell? (ad.add (q * 2)) = some (.string y.f0))) (ds := []) #[false, false, false, false, false, false, false, false, false, false, false, false, false, false, false, false, false, false] (by kernel_rfl) rfl rfl ⟨by simp, by simp, hyd⟩ (fun hHeld => ?_)
            refine with_tabW mk_tab mk_bits (fun HT_ HW_ => ?_)
            refine take_ (i := 0) (N := some 18) (v := ?_) (a' := ?_) (Less.bv 18 1) rfl rfl (take_ofW HT_.out HW_.out (by kernel_rfl)) (fun _ _ _ h => h) (Or.inl ⟨by rfl, ?_⟩) hHeld ?_ ?_
            rotate_left
            · rintro w' ⟨s0, s1, s2⟩
              go_simp
              with_reducible rfl
            rotate_left
            · simp only [Act.put, Less.p1, Less.p2, Less.p3, i64_w, i32_w]
              rfl
            refine one_ (i := 1) (N := some 19) (Less.bv 18 3) rfl rfl (one_of HT_.out (by kernel_rfl)) (by decide) (fun K hK => ?_)
            refine goes_ Tryd.func72 (by kernel_rfl) rfl #[.agg #[.string x.f0, .string x.f1]] (by rfl) rfl rfl (by (try simp only [List.map_toArray, List.map_cons, List.map_nil]); first | done | rfl | (simp only [List.length_drop, List.length_take]; rfl)) ?_
            refine (HM.out _ HB0.out).mono ?_
            rintro e w3 ⟨rfl, hb⟩
            have HB3 : Aside0 (RowKit.Below w2.heap.size w2 w3) := ⟨below_then HB0.out HB0.out.size hb⟩
            refine ⟨_, rfl, ?_⟩
            obtain ⟨s0, s1, s2⟩ := hHeld
            refine hK.out _ _ ⟨pw_cell_below hb s0, pw_cell_below hb s1, pw_cell_below hb s2⟩ (fun hHeld => ?_)
            clear hK K
            refine norm_ (a' := ?_) ?_ ?_
            rotate_left
            · show Act.put _ (some 19) _ = _
              simp only [Act.put, Less.p1, Less.p2, Less.p3, i64_w, i32_w]
              rfl
            refine pure_ (i := 2) (N := some 20) (v := ?_) (a' := ?_) (Less.bv 18 7) rfl rfl (any_of HT_.out (by kernel_rfl)) (fun _ _ _ h => h) (Or.inl ⟨by rfl, ?_⟩) ?_ ?_
            rotate_left
            · intro w'
              go_simp
              with_reducible rfl
            rotate_left
            · simp only [Act.put, Less.p1, Less.p2, Less.p3, i64_w, i32_w]
              rfl
            refine pure_ (i := 3) (N := some 21) (v := ?_) (a' := ?_) (Less.bv 18 15) rfl rfl (any_of HT_.out (by kernel_rfl)) (fun _ _ _ h => h) (Or.inl ⟨by rfl, ?_⟩) ?_ ?_
            rotate_left
            · intro w'
              go_simp
              with_reducible rfl
            rotate_left
            · simp only [Act.put, Less.p1, Less.p2, Less.p3, i64_w, i32_w]
              rfl
            refine pure_ (i := 4) (N := some 22) (v := ?_) (a' := ?_) (Less.bv 18 31) rfl rfl (any_of HT_.out (by kernel_rfl)) (fun _ _ _ h => h) (Or.inl ⟨by rfl, ?_⟩) ?_ ?_
            rotate_left
            · intro w'
              go_simp
              with_reducible rfl
            rotate_left
            · simp only [Act.put, Less.p1, Less.p2, Less.p3, i64_w, i32_w]
              rfl
            refine pure_ (i := 5) (N := some 23) (v := ?_) (a' := ?_) (Less.bv 18 63) rfl rfl (any_of HT_.out (by kernel_rfl)) (fun _ _ _ h => h) (Or.inl ⟨by rfl, ?_⟩) ?_ ?_
            rotate_left
            · intro w'
              go_simp
              with_reducible rfl
            rotate_left
            · simp only [Act.put, Less.p1, Less.p2, Less.p3, i64_w, i32_w]
              rfl
            refine pure_ (i := 6) (N := some 24) (v := ?_) (a' := ?_) (Less.bv 18 127) rfl rfl (any_of HT_.out (by kernel_rfl)) (fun _ _ _ h => h) (Or.inl ⟨by rfl, ?_⟩) ?_ ?_
            rotate_left
            · intro w'
              go_simp
              with_reducible rfl
            rotate_left
            · simp only [Act.put, Less.p1, Less.p2, Less.p3, i64_w, i32_w]
              rfl
            refine pure_ (i := 7) (N := some 25) (v := ?_) (a' := ?_) (Less.bv 18 255) rfl rfl (any_of HT_.out (by kernel_rfl)) (fun _ _ _ h => h) (Or.inl ⟨by rfl, ?_⟩) ?_ ?_
            rotate_left
            · intro w'
              go_simp
              with_reducible rfl
            rotate_left
            · simp only [Act.put, Less.p1, Less.p2, Less.p3, i64_w, i32_w]
              rfl
            refine pure_ (i := 8) (N := some 26) (v := ?_) (a' := ?_) (Less.bv 18 511) rfl rfl (any_of HT_.out (by kernel_rfl)) (fun _ _ _ h => h) (Or.inl ⟨by rfl, ?_⟩) ?_ ?_
            rotate_left
            · intro w'
              go_simp
              with_reducible rfl
            rotate_left
            · simp only [Act.put, Less.p1, Less.p2, Less.p3, i64_w, i32_w]
              rfl
            refine pure_ (i := 9) (N := some 27) (v := ?_) (a' := ?_) (Less.bv 18 1023) rfl rfl (any_of HT_.out (by kernel_rfl)) (fun _ _ _ h => h) (Or.inl ⟨by rfl, ?_⟩) ?_ ?_
            rotate_left
            · intro w'
              go_simp
              with_reducible rfl
            rotate_left
            · simp only [Act.put, Less.p1, Less.p2, Less.p3, i64_w, i32_w]
              rfl
            refine pure_ (i := 10) (N := some 28) (v := ?_) (a' := ?_) (Less.bv 18 2047) rfl rfl (any_of HT_.out (by kernel_rfl)) (fun _ _ _ h => h) (Or.inl ⟨by rfl, ?_⟩) ?_ ?_
            rotate_left
            · intro w'
              go_simp
              with_reducible rfl
            rotate_left
            · simp only [Act.put, Less.p1, Less.p2, Less.p3, i64_w, i32_w]
              rfl
            refine pure_ (i := 11) (N := some 29) (v := ?_) (a' := ?_) (Less.bv 18 4095) rfl rfl (any_of HT_.out (by kernel_rfl)) (fun _ _ _ h => h) (Or.inl ⟨by rfl, ?_⟩) ?_ ?_
            rotate_left
            · intro w'
              go_simp
              with_reducible rfl
            rotate_left
            · simp only [Act.put, Less.p1, Less.p2, Less.p3, i64_w, i32_w]
              rfl
            refine take_ (i := 12) (N := some 30) (v := ?_) (a' := ?_) (Less.bv 18 8191) rfl rfl (take_ofW HT_.out HW_.out (by kernel_rfl)) (fun _ _ _ h => h) (Or.inl ⟨by rfl, ?_⟩) hHeld ?_ ?_
            rotate_left
            · rintro w' ⟨s0, s1, s2⟩
              go_simp
              with_reducible rfl
            rotate_left
            · simp only [Act.put, Less.p1, Less.p2, Less.p3, i64_w, i32_w]
              rfl
            refine pure_ (i := 13) (N := some 31) (v := ?_) (a' := ?_) (Less.bv 18 16383) rfl rfl (any_of HT_.out (by kernel_rfl)) (fun _ _ _ h => h) (Or.inl ⟨by rfl, ?_⟩) ?_ ?_
            rotate_left
            · intro w'
              go_simp
              with_reducible rfl
            rotate_left
            · simp only [Act.put, Less.p1, Less.p2, Less.p3, i64_w, i32_w]
              rfl
            refine take_ (i := 14) (N := some 32) (v := ?_) (a' := ?_) (Less.bv 18 32767) rfl rfl (take_ofW HT_.out HW_.out (by kernel_rfl)) (fun _ _ _ h => h) (Or.inl ⟨by rfl, ?_⟩) hHeld ?_ ?_
            rotate_left
            · rintro w' ⟨s0, s1, s2⟩
              go_simp
              with_reducible rfl
            rotate_left
            · simp only [Act.put, Less.p1, Less.p2, Less.p3, i64_w, i32_w]
              rfl
            refine pure_ (i := 15) (N := some 33) (v := ?_) (a' := ?_) (Less.bv 18 65535) rfl rfl (any_of HT_.out (by kernel_rfl)) (fun _ _ _ h => h) (Or.inl ⟨by rfl, ?_⟩) ?_ ?_
            rotate_left
            · intro w'
              go_simp
              with_reducible rfl
            rotate_left
            · simp only [Act.put, Less.p1, Less.p2, Less.p3, i64_w, i32_w]
              rfl
            refine pure_ (i := 16) (N := some 34) (v := ?_) (a' := ?_) (Less.bv 18 131071) rfl rfl (any_of HT_.out (by kernel_rfl)) (fun _ _ _ h => h) (Or.inl ⟨by rfl, ?_⟩) ?_ ?_
            rotate_left
            · intro w'
              go_simp
              with_reducible rfl
            rotate_left
            · simp only [Act.put, Less.p1, Less.p2, Less.p3, i64_w, i32_w]
              rfl
            refine pure_ (i := 17) (N := some 35) (v := ?_) (a' := ?_) (Less.bv 18 262143) rfl rfl (any_of HT_.out (by kernel_rfl)) (fun _ _ _ h => h) (Or.inl ⟨by rfl, ?_⟩) ?_ ?_
            rotate_left
            · intro w'
              go_simp
              with_reducible rfl
            rotate_left
            · simp only [Act.put, Less.p1, Less.p2, Less.p3, i64_w, i32_w]
              rfl
            refine done_ (done_of HT_.out (by kernel_rfl)) ?_
            go_wp2
            go_roundg (s.length - (j + 1))
            case measure => omega
            case rel => exact ⟨j + 1, by go_num, by omega, by omega, HB3, I2⟩
    · have HK : Aside0 (okFrom mayB none s = true) := ⟨by rw [I.out, List.drop_eq_nil_of_le (show s.length ≤ j by omega)]; cases prevN s j <;> rfl⟩
      have HR3 : Aside0 ((r1, r2) = if rightB mayB (s.filter full) = true then (s.filter full, none) else ([], some 1)) := ⟨by rw [HR.out, if_pos HK.out]⟩
      have hfl : (s.filter full).length ≤ s.length := List.length_filter_le _ _
      have eg : ∀ args w, (callFunc 74 args).run Tryd.prog w = .ok (.enter 74 args) w := enters_of Tryd.func74 (by kernel_rfl) rfl
      have hdl := lb_del 74 #[] (fun x => !full x) _ s w.heap.size wr (Nat.le_trans HB2.out.size HW.out.size) (Kd.R_below HR2.out HW.out) eg (del_closure _ _)
      have hff : s.filter (fun x => !(!full x)) = s.filter full := by simp
      rw [hff] at hdl
      have HDL := Aside0.mk hdl
      have HBr : Aside0 (RowKit.Below w.heap.size w wr) := ⟨HB2.out.trans (HW.out.mono HB2.out.size)⟩
      obtain ⟨o, ho⟩ : ∃ o, o = s.filter full := ⟨_, rfl⟩
      rw [← ho] at HDL HR3 hfl
      have ho4 : o.length < 4611686018427387904 := Nat.lt_of_le_of_lt hfl HSL.out
      clear HR I hdl hff eg hj hg ho
      have hR4 : ∃ b, b = rightB mayB o := ⟨_, rfl⟩
      obtain ⟨b, hb4⟩ := hR4
      have HRT : Aside0 (∀ A c W, Kd.C k67 W A o.length o → o.length ≤ c → RowKit.Below w.heap.size w W → Calls Tryd.prog 67 #[.slice A o.length c] W fun e w' => e = .returned (.bool b) ∧ RowKit.Below W.heap.size W w') := ⟨fun A c W hC hc hW => by rw [hb4]; exact right_calls A c o ho4 W hC hc (HG.out.below hW)⟩
      rw [← hb4] at HR3
      clear hb4
      cases b with
      | false =>
        go_wp2_with (first
          | (go_at_call 73; refine HDL.out.mono ?_; rintro e w4 ⟨v4, rfl, hR4, hB4⟩; have HR4 := Aside0.mk hR4; have HB4 : Aside0 (RowKit.Below w.heap.size w w4) := ⟨HBr.out.trans hB4⟩; clear hR4 hB4; obtain ⟨A4, c4, hv4, hlc4, hC4⟩ := Kd.R_reads HR4.out; subst hv4; have HC4 := Aside0.mk hC4; clear hC4)
          | (go_at_call 67; refine (HRT.out _ _ _ HC4.out hlc4 HB4.out).mono ?_; rintro e w5 ⟨rfl, hB5⟩; have HB5 : Aside0 (RowKit.Below w.heap.size w w5) := ⟨below_then HB4.out HB4.out.size hB5⟩; clear hB5))
        go_ret2
        have he := HR3.out
        simp only [Bool.false_eq_true, if_false, Prod.mk.injEq] at he
        exact ⟨.slice none 0 0, by rw [he.2]; rfl, by rw [he.1]; exact Kd.R_nil _ _ _ _ _, HB5.out⟩
      | true =>
        go_wp2_with (first
          | (go_at_call 73; refine HDL.out.mono ?_; rintro e w4 ⟨v4, rfl, hR4, hB4⟩; have HR4 := Aside0.mk hR4; have HB4 : Aside0 (RowKit.Below w.heap.size w w4) := ⟨HBr.out.trans hB4⟩; clear hR4 hB4; obtain ⟨A4, c4, hv4, hlc4, hC4⟩ := Kd.R_reads HR4.out; subst hv4; have HC4 := Aside0.mk hC4; clear hC4)
          | (go_at_call 67; refine (HRT.out _ _ _ HC4.out hlc4 HB4.out).mono ?_; rintro e w5 ⟨rfl, hB5⟩; have HB5 : Aside0 (RowKit.Below w.heap.size w w5) := ⟨below_then HB4.out HB4.out.size hB5⟩; have HR5 := Aside0.mk (Kd.R_below HR4.out hB5); clear hB5))
        go_ret2
        have he := HR3.out
        simp only [if_true, Prod.mk.injEq] at he
        exact ⟨.slice A4 o.length c4, by rw [he.2]; rfl, by rw [he.1]; exact HR5.out, HB5.out⟩
end Go.Proofs.YtlelcmkbcejjkaaDoor.L
namespace Go.Proofs.YtlelcmkbcejjkaaDoor.L
open Go.Proofs Go.Proofs.YtlelcmkbcejjkaaDoor.Two Go.Proofs.YtlelcmkbcejjkaaDoor.Lab Go.Proofs.YtlelcmkbcejjkaaDoor.Cmp
open Go.RowKit Go.Proofs.YtlelcmkbcejjkaaDoorW.PrintWords Go.Proofs.YtlelcmkbcejjkaaDoorW.PrintLast Go.Proofs.YtlelcmkbcejjkaaDoorW.PrintMore
set_option linter.unusedVariables false
set_option linter.unusedSimpArgs false
theorem errV_W (o : Option Int) : Err.errV o = errW o := by cases o <;> simp [Err.errV, errW]
def soundingslaw01_Code.f (a0 : Option Int) : Option Int := some (Err.codeOf a0)
theorem soundingslaw01_Code.calls (a0 : Option Int) (r : Int) (w : World) (hG : GL w) (h : soundingslaw01_Code.f a0 = some r) :
    Calls Tryd.prog 12 #[errW a0] w fun e w' => e = .returned (.int .i64 r) ∧ RowKit.Below w.heap.size w w' := by
  have h2 := Err.code_calls a0 w hG.e
  rw [Option.some.inj h, errV_W] at h2
  exact h2
def label_Cmp.f (l0 l1 : List S67) : Option Int := some (cmpLs ordL l0 l1)
theorem label_Cmp.calls (A0 : Option Addr) (c0 : Nat) (l0 : List S67) (A1 : Option Addr) (c1 : Nat) (l1 : List S67) (r : Int) (w : World) (hr0 : Kd.C k67 w A0 l0.length l0) (hc0 : l0.length ≤ c0) (hr1 : Kd.C k67 w A1 l1.length l1) (hc1 : l1.length ≤ c1) (hG : GL w) (h : label_Cmp.f l0 l1 = some r) :
    Calls Tryd.prog 51 #[.slice A0 l0.length c0, .slice A1 l1.length c1] w fun e w' => e = .returned (.int .i64 r) ∧ RowKit.Below w.heap.size w w' := by
  rw [← Option.some.inj h]
  exact lcmp_calls A0 c0 l0 A1 c1 l1 w hr0 hr1

end Go.Proofs.YtlelcmkbcejjkaaDoor.L
