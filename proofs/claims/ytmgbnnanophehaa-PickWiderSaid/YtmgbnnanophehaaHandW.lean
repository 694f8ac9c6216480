/- pick.Window by its contract. -/
import Derived.Test.YtmgbnnanophehaaHandP
namespace Go.Proofs.Ytmgbnnanophehaa.P
open Go.Proofs Go.Proofs.Ytmgbnnanophehaa.Two
open Go.RowKit Go.Proofs.YtmgbnnanophehaaW.PrintWords Go.Proofs.YtmgbnnanophehaaW.PrintLast Go.Proofs.YtmgbnnanophehaaW.PrintMore
set_option linter.unusedVariables false
set_option linter.unusedSimpArgs false

/-- May points, a time and a way back be? -/
def mayP (l : List S29) (t b : Int) : Bool := decide ((∀ x ∈ l, -2305843009213693952 ≤ x.f0 ∧ x.f0 ≤ 2305843009213693952) ∧ Rise l ∧ -2305843009213693952 ≤ t ∧ t ≤ 2305843009213693952 ∧ 1 ≤ b ∧ b ≤ 2305843009213693952)
theorem mayP_true {l : List S29} {t b : Int} (h : mayP l t b = true) : (∀ x ∈ l, -2305843009213693952 ≤ x.f0 ∧ x.f0 ≤ 2305843009213693952) ∧ Rise l ∧ -2305843009213693952 ≤ t ∧ t ≤ 2305843009213693952 ∧ 1 ≤ b ∧ b ≤ 2305843009213693952 := of_decide_eq_true h

theorem rise_of (l : List S29) (h : ∀ i (h : i + 1 < l.length), l[i].f0 < l[i + 1].f0) : Rise l := by
  unfold Rise
  rw [List.pairwise_iff_getElem]
  intro i j hi hj hij
  induction j with
  | zero => omega
  | succ j ih =>
    rcases Nat.lt_or_ge i j with h1 | h1
    · have := ih (by omega) h1
      have := h j hj
      omega
    · obtain rfl : i = j := by omega
      exact h i hj
/-- pick.may, in plain words. -/
theorem may_at (l : List S29) (t b : Int) (hl : l.length ≤ 4611686018427387904) (d : Nat) : ∀ (k j : Nat), l.length - j = d → j ≤ l.length → d < k → (∀ i (h : i < l.length), i < j → -2305843009213693952 ≤ l[i].f0 ∧ l[i].f0 ≤ 2305843009213693952) → (∀ i (h : i + 1 < l.length), i + 1 < j → l[i].f0 < l[i+1].f0) →
    pick_may.l0 k l t b l l.length j = some (mayP l t b) := by
  induction d with
  | zero =>
    intro k j hd hj hk h1 h2
    obtain ⟨k, rfl⟩ : ∃ m, k = m + 1 := ⟨k - 1, by omega⟩
    have hR : Rise l := by
      exact rise_of l fun i hi => h2 i hi (by omega)
    have hA : ∀ x ∈ l, -2305843009213693952 ≤ x.f0 ∧ x.f0 ≤ 2305843009213693952 := by
      intro x hx
      obtain ⟨i, hi, rfl⟩ := List.mem_iff_getElem.1 hx
      exact h1 i hi (by omega)
    simp only [pick_may.l0]
    rw [if_neg (by omega)]
    unfold mayP
    by_cases c1 : t ≥ -2305843009213693952
    · rw [if_pos c1]
      by_cases c2 : t ≤ 2305843009213693952
      · rw [if_pos c2]
        by_cases c3 : b ≥ 1
        · rw [if_pos c3]
          by_cases c4 : b ≤ 2305843009213693952
          · rw [decide_eq_true c4, decide_eq_true ⟨hA, hR, c1, c2, c3, c4⟩]
          · rw [decide_eq_false c4, decide_eq_false (fun h => c4 h.2.2.2.2.2)]
        · rw [if_neg c3, decide_eq_false (fun h => c3 h.2.2.2.2.1)]
      · rw [if_neg c2, decide_eq_false (fun h => c2 h.2.2.2.1)]
    · rw [if_neg c1, decide_eq_false (fun h => c1 h.2.2.1)]
  | succ d ih =>
    intro k j hd hj hk h1 h2
    obtain ⟨k, rfl⟩ : ∃ m, k = m + 1 := ⟨k - 1, by omega⟩
    have hlt : j < l.length := by omega
    have w1 : wrap64 ((j : Int) + 1) = ((j + 1 : Nat) : Int) := by unfold wrap64; omega
    simp only [pick_may.l0]
    rw [if_pos (by omega), if_pos (by omega), if_pos (by omega), rdP_at l j hlt, w1]
    by_cases c1 : l[j].f0 < -2305843009213693952
    · rw [if_pos c1]
      unfold mayP
      rw [decide_eq_false (fun h => by have := (h.1 l[j] (List.getElem_mem hlt)).1; omega)]
    · rw [if_neg c1]
      by_cases c2 : l[j].f0 > 2305843009213693952
      · rw [if_pos c2]
        unfold mayP
        rw [decide_eq_false (fun h => by have := (h.1 l[j] (List.getElem_mem hlt)).2; omega)]
      · rw [if_neg c2]
        have n1 : ∀ i (h : i < l.length), i < j + 1 → -2305843009213693952 ≤ l[i].f0 ∧ l[i].f0 ≤ 2305843009213693952 := by
          intro i h hi
          rcases Nat.lt_or_ge i j with h' | h'
          · exact h1 i h h'
          · obtain rfl : i = j := by omega
            omega
        by_cases c3 : (j : Int) > 0
        · rw [if_pos c3]
          have w2 : wrap64 ((j : Int) - 1) = ((j - 1 : Nat) : Int) := by unfold wrap64; omega
          rw [w2, if_pos (by omega), if_pos (by omega), rdP_at l (j - 1) (by omega)]
          by_cases c4 : l[j - 1].f0 ≥ l[j].f0
          · rw [if_pos c4]
            unfold mayP
            rw [decide_eq_false (fun h => by have := Rise.at_ h.2.1 (j - 1) j (by omega) hlt (by omega); omega)]
          · rw [if_neg c4]
            exact ih k (j + 1) (by omega) (by omega) (by omega) n1 (fun i h hi => by
              rcases Nat.lt_or_ge (i + 1) j with h' | h'
              · exact h2 i h h'
              · obtain rfl : i = j - 1 := by omega
                have e : l[j - 1 + 1].f0 = l[j].f0 := by congr 1; exact getElem_congr_idx (by omega)
                omega)
        · rw [if_neg c3]
          exact ih k (j + 1) (by omega) (by omega) (by omega) n1 (fun i h hi => by omega)
theorem may_is (l : List S29) (t b : Int) (hl : l.length ≤ 4611686018427387904) (k : Nat) (hk : l.length < k) : pick_may.f k l t b = some (mayP l t b) :=
  may_at l t b hl l.length k 0 (by omega) (by omega) hk (fun i h hi => by omega) (fun i h hi => by omega)

/-- The points within a time, but the stale ones. -/
def winP (l : List S29) (t w : Int) : List S29 := l.filter fun x => decide (t - w < x.f0 ∧ x.f0 ≤ t) && !stale x
theorem upN_le (l : List S29) (t : Int) : upN l t ≤ l.length := List.countP_le_length
theorem upN_mono (l : List S29) {s t : Int} (h : s ≤ t) : upN l s ≤ upN l t := by
  unfold upN
  refine List.countP_mono_left fun x _ hx => ?_
  simp only [decide_eq_true_eq] at hx ⊢
  omega
theorem upN_at {l : List S29} (h : Rise l) (t : Int) : l.take (upN l t) = l.filter (fun x => decide (x.f0 ≤ t)) := by
  induction l with
  | nil => rfl
  | cons x r ih =>
    have hr : Rise r := (List.pairwise_cons.1 h).2
    have hx := (List.pairwise_cons.1 h).1
    have e : upN (x :: r) t = upN r t + if x.f0 ≤ t then 1 else 0 := by
      unfold upN; rw [List.countP_cons]; simp
    by_cases c : x.f0 ≤ t
    · rw [e, if_pos c, List.take_succ_cons, ih hr, List.filter_cons]
      simp [c]
    · have z : upN r t = 0 := by
        unfold upN
        rw [List.countP_eq_zero]
        intro y hy
        have := hx y hy
        simp only [decide_eq_true_eq]
        omega
      rw [e, if_neg c, z, List.filter_cons]
      simp only [decide_eq_true_eq, c, if_false]
      symm
      rw [List.take_zero, List.filter_eq_nil_iff]
      intro y hy
      have := hx y hy
      simp only [decide_eq_true_eq]
      omega
theorem upN_drop {l : List S29} (h : Rise l) (t : Int) : l.drop (upN l t) = l.filter (fun x => decide (t < x.f0)) := by
  induction l with
  | nil => rfl
  | cons x r ih =>
    have hr : Rise r := (List.pairwise_cons.1 h).2
    have hx := (List.pairwise_cons.1 h).1
    have e : upN (x :: r) t = upN r t + if x.f0 ≤ t then 1 else 0 := by
      unfold upN; rw [List.countP_cons]; simp
    by_cases c : x.f0 ≤ t
    · rw [e, if_pos c, List.drop_succ_cons, ih hr, List.filter_cons]
      have : ¬ t < x.f0 := by omega
      simp [this]
    · have z : upN r t = 0 := by
        unfold upN
        rw [List.countP_eq_zero]
        intro y hy
        have := hx y hy
        simp only [decide_eq_true_eq]
        omega
      rw [e, if_neg c, z, List.drop_zero]
      symm
      rw [List.filter_eq_self]
      intro y hy
      simp only [decide_eq_true_eq]
      rcases List.mem_cons.1 hy with rfl | hy
      · omega
      · have := hx y hy; omega
theorem part_win {l : List S29} (h : Rise l) (t w : Int) (hw : 0 ≤ w) : ((l.take (upN l t)).drop (upN l (t - w))).filter (fun x => !stale x) = winP l t w := by
  have h1 : Rise (l.take (upN l t)) := List.Pairwise.sublist (List.take_sublist _ _) h
  have e : upN (l.take (upN l t)) (t - w) = upN l (t - w) := by
    rw [upN_at h]
    unfold upN
    rw [List.countP_filter]
    refine List.countP_congr fun x _ => ?_
    simp only [Bool.and_eq_true, decide_eq_true_eq]
    omega
  rw [← e, upN_drop h1, upN_at h, List.filter_filter, List.filter_filter]
  unfold winP
  congr 1
  funext x
  simp only [Bool.decide_and, Bool.and_assoc]
  rw [Bool.and_comm, Bool.and_assoc]

def pick_Window.f (l0 : List S29) (a1 a2 : Int) : Option (List S29) :=
  if l0.length * 16 ≤ 140737488355328 then (if mayP l0 a1 a2 = true then some (winP l0 a1 a2) else some []) else none

set_option maxHeartbeats 2000000 in
theorem pick_Window.calls (A0 : Option Addr) (c0 : Nat) (l0 : List S29) (a1 a2 : Int) (r : List S29) (w : World) (hr0 : Kd.C k29 w A0 l0.length l0) (hc0 : l0.length ≤ c0) (h : pick_Window.f l0 a1 a2 = some r) :
    Calls Try.prog 17 #[.slice A0 l0.length c0, .int .i64 a1, .int .i64 a2] w fun e w' => ∃ v0_ : Value, e = .returned (v0_) ∧ Kd.R k29 29 w' w.heap.size (fun _ => True) v0_ r ∧ Below w.heap.size w w' := by
  unfold pick_Window.f at h
  split at h
  rotate_left
  · cases h
  rename_i hsz
  have hm := pick_may.calls (l0.length + 1) A0 c0 l0 a1 a2 _ w hr0 hc0 (may_is l0 a1 a2 (by omega) _ (by omega))
  split at h
  · rename_i hmay
    obtain rfl := Option.some.inj h
    rw [hmay] at hm
    obtain ⟨_, hR, t0, t1, b0, b1⟩ := mayP_true hmay
    have hlo := upN_le l0 (a1 - a2)
    have hhi := upN_le l0 a1
    have hle : upN l0 (a1 - a2) ≤ upN l0 a1 := upN_mono l0 (by omega)
    obtain ⟨i0, hi, hz0, hz1, hz2⟩ := info_parts info29
    have hcut0 := cut_mid (P := Try.prog) 22 29 .i64 .i64 Try.underlying22 hi 2 hz1 A0 l0.length c0 (upN l0 (a1 - a2) : Nat) (upN l0 a1 : Nat) (by omega) (by omega) (by omega) hc0
    rw [Int.toNat_natCast, Int.toNat_natCast] at hcut0
    obtain ⟨A', hA'⟩ : ∃ A', (if c0 = upN l0 (a1 - a2) then A0 else A0.map (·.add (upN l0 (a1 - a2) * 2))) = A' := ⟨_, rfl⟩
    have hcut : ∀ W : World, (Instr.slice 22 (.slice A0 l0.length c0) (some (.int .i64 (upN l0 (a1 - a2) : Nat))) (some (.int .i64 (upN l0 a1 : Nat))) none).run Try.prog W = .ok (.slice A' (upN l0 a1 - upN l0 (a1 - a2)) (c0 - upN l0 (a1 - a2))) W := by
      intro W; rw [← hA']; exact hcut0 W
    have hC' := Kd.C_mid (c := c0) hr0 hle hhi hc0
    rw [show (if c0 = upN l0 (a1 - a2) then A0 else A0.map (·.add (upN l0 (a1 - a2) * k29.sz))) = A' from hA'] at hC'
    have hpl : ((l0.take (upN l0 a1)).drop (upN l0 (a1 - a2))).length = upN l0 a1 - upN l0 (a1 - a2) := by rw [List.length_drop, List.length_take]; omega
    have HPW := Aside0.mk (part_win hR a1 a2 (by omega))
    have HU1 := fun W (hC : Kd.C k29 W A0 l0.length l0) => upto_calls A0 c0 l0 (a1 - a2) W hR (by omega) hC
    have HU2 := fun W (hC : Kd.C k29 W A0 l0.length l0) => upto_calls A0 c0 l0 a1 W hR (by omega) hC
    generalize ((l0.take (upN l0 a1)).drop (upN l0 (a1 - a2))) = part at hC' hpl HPW
    have HCL := fun W (hC : Kd.C k29 W A' part.length part) => pt_clone A' (c0 - upN l0 (a1 - a2)) part W hC (by omega)
    rw [hpl] at HCL
    have HC0 := Aside0.mk hr0
    rw [hpl] at hC'
    have HC1 := Aside0.mk hC'
    have HPL := Aside0.mk hpl
    clear hcut0 hA' hC' hr0 hmay h hi hz0 hz1 hz2 hpl
    generalize upN l0 (a1 - a2) = lo at *
    generalize upN l0 a1 = hi at *
    have HU1 := Aside0.mk HU1
    have HU2 := Aside0.mk HU2
    have HCL := Aside0.mk HCL
    go_enter Try.func17, Try.ntmps17
    go_wp2_with (go_at_call 34; refine hm.mono ?_; rintro e w1 ⟨rfl, hb1⟩; have HB1 := Aside0.mk hb1; clear hb1)
    go_wp2_with fail
    refine (HU1.out _ (Kd.C_below (Kd.C_below HC0.out HB1.out) (below_alloc (Below.refl _ _) _))).mono ?_
    rintro e w2 ⟨rfl, hb2⟩
    have HB2 : Aside0 (Below w1.heap.size w1 w2) := ⟨below_then (below_alloc (Below.refl _ _) _) (by simp) hb2⟩
    have HF2 : Aside0 (w2.cell? ⟨w1.heap.size, 0, none⟩ = some (.func (.func 36) #[] #[])) := ⟨(hb2.cell (p := ⟨w1.heap.size, 0, none⟩) (by simp)).trans (by simp)⟩
    have HZ2 : Aside0 (w1.heap.size < w2.heap.size) := ⟨by have := hb2.size; simp at this; omega⟩
    clear hb2
    go_wp2_with fail
    refine (HU2.out _ (Kd.C_below (Kd.C_below HC0.out HB1.out) HB2.out)).mono ?_
    rintro e w3 ⟨rfl, hb3⟩
    have HB3 := Aside0.mk hb3
    clear hb3
    go_wp2_with fail
    refine (HCL.out _ (Kd.C_below (Kd.C_below (Kd.C_below HC1.out HB1.out) HB2.out) HB3.out)).mono ?_
    rintro e w4 ⟨v4, rfl, hr4, hb4⟩
    have HR4 := Aside0.mk hr4
    have HB4 := Aside0.mk hb4
    clear hr4 hb4
    go_wp2_with fail
    have hpred : pt_Pred 39 #[.pointer (some ⟨w1.heap.size, 0, none⟩)] stale w3.heap.size w4 := by
      intro W x hW hWs
      refine win_clo w1.heap.size x W ?_
      have h3 : w3.cell? ⟨w1.heap.size, 0, none⟩ = some (.func (.func 36) #[] #[]) := (HB3.out.cell (p := ⟨w1.heap.size, 0, none⟩) HZ2.out).trans HF2.out
      have hlt : w1.heap.size < w3.heap.size := Nat.lt_of_lt_of_le HZ2.out HB3.out.size
      exact (hW.cell (p := ⟨w1.heap.size, 0, none⟩) hlt).trans ((HB4.out.cell (p := ⟨w1.heap.size, 0, none⟩) hlt).trans h3)
    refine (pt_del 39 #[.pointer (some ⟨w1.heap.size, 0, none⟩)] stale v4 part w3.heap.size w4 HB4.out.size HR4.out (enters_of Try.func39 (by kernel_rfl) rfl) hpred).mono ?_
    rintro e w5 ⟨v5, rfl, hr5, hb5⟩
    have HR5 := Aside0.mk hr5
    have HB5 := Aside0.mk hb5
    clear hr5 hb5 hpred
    go_wp2_with fail
    go_ret
    have s3 : Below w.heap.size w w3 := below_then (below_then HB1.out HB1.out.size HB2.out) (Nat.le_trans HB1.out.size HB2.out.size) HB3.out
    refine ⟨_, rfl, ?_, ?_⟩
    · rw [← HPW.out]
      exact Kd.R_lower HR5.out s3.size
    · exact (below_then s3 s3.size HB4.out).trans (HB5.out.mono s3.size)
  · obtain rfl := Option.some.inj h
    rename_i hmay
    rw [Bool.not_eq_true] at hmay
    rw [hmay] at hm
    clear hr0
    go_enter Try.func17, Try.ntmps17
    go_wp2_with (go_at_call 34; refine hm.mono ?_; rintro e w1 ⟨rfl, hb1⟩; have HB1 := Aside0.mk hb1; clear hb1)
    go_ret
    exact ⟨_, rfl, Kd.R_nil _ _ _ _ _, HB1.out⟩
end Go.Proofs.Ytmgbnnanophehaa.P
