/- The law RateRises by its walk. -/
import Derived.Test.YtlelcmkbcejjkaaRateO
namespace Go.Proofs.Ytlelcmkbcejjkaa.F
open Go.Proofs Go.RowKit Go.Proofs.YtlelcmkbcejjkaaW.PrintWords Go.Proofs.YtlelcmkbcejjkaaW.PrintLast Go.Proofs.YtlelcmkbcejjkaaW.PrintMore
set_option linter.unusedVariables false
set_option linter.unusedSimpArgs false
def pa : Pt := ⟨10000, 0⟩
def pb : Pt := ⟨20000, 4621819117588971520⟩
theorem C_two (w : World) (b : Nat) (x y : Pt) (h0 : w.cell? ⟨b, 0, none⟩ = some (.int .i64 x.f0)) (h1 : w.cell? ⟨b, 1, none⟩ = some (.int .u64 x.f1)) (h2 : w.cell? ⟨b, 2, none⟩ = some (.int .i64 y.f0)) (h3 : w.cell? ⟨b, 3, none⟩ = some (.int .u64 y.f1)) :
    Kd.C k28 w (some ⟨b, 0, none⟩) [x, y].length [x, y] := by
  refine ⟨rfl, by simp, fun _ => ⟨_, rfl, fun j p hj => ?_⟩⟩
  match j, hj with
  | 0, hj =>
    obtain rfl := Option.some.inj hj
    refine ⟨_, rfl, k28_mk w x, fun i u hu => ?_⟩
    match i, hu with
    | 0, hu => obtain rfl := Option.some.inj hu; exact h0
    | 1, hu => obtain rfl := Option.some.inj hu; exact h1
  | 1, hj =>
    obtain rfl := Option.some.inj hj
    refine ⟨_, rfl, k28_mk w y, fun i u hu => ?_⟩
    match i, hu with
    | 0, hu => obtain rfl := Option.some.inj hu; exact h2
    | 1, hu => obtain rfl := Option.some.inj hu; exact h3
theorem C_one (w : World) (b : Nat) (x : Pt) (h0 : w.cell? ⟨b, 0, none⟩ = some (.int .i64 x.f0)) (h1 : w.cell? ⟨b, 1, none⟩ = some (.int .u64 x.f1)) :
    Kd.C k28 w (some ⟨b, 0, none⟩) [x].length [x] := by
  refine ⟨rfl, by simp, fun _ => ⟨_, rfl, fun j p hj => ?_⟩⟩
  match j, hj with
  | 0, hj =>
    obtain rfl := Option.some.inj hj
    refine ⟨_, rfl, k28_mk w x, fun i u hu => ?_⟩
    match i, hu with
    | 0, hu => obtain rfl := Option.some.inj hu; exact h0
    | 1, hu => obtain rfl := Option.some.inj hu; exact h1
theorem nm_r : ((⟨#[100, 101, 108, 116, 97]⟩ : ByteArray).toList == [114, 97, 116, 101]) = false := by kernel_rfl
theorem nm_i : ((⟨#[100, 101, 108, 116, 97]⟩ : ByteArray).toList == [105, 110, 99, 114, 101, 97, 115, 101]) = false := by kernel_rfl
theorem nm_d : ((⟨#[100, 101, 108, 116, 97]⟩ : ByteArray).toList == [100, 101, 108, 116, 97]) = true := by kernel_rfl
theorem nr_r : ((⟨#[114, 97, 116, 101]⟩ : ByteArray).toList == [114, 97, 116, 101]) = true := by kernel_rfl
theorem nr_i : ((⟨#[114, 97, 116, 101]⟩ : ByteArray).toList == [105, 110, 99, 114, 101, 97, 115, 101]) = false := by kernel_rfl
theorem ni_r : ((⟨#[105, 110, 99, 114, 101, 97, 115, 101]⟩ : ByteArray).toList == [114, 97, 116, 101]) = false := by kernel_rfl
theorem ni_i : ((⟨#[105, 110, 99, 114, 101, 97, 115, 101]⟩ : ByteArray).toList == [105, 110, 99, 114, 101, 97, 115, 101]) = true := by kernel_rfl
theorem may_a : rate_may.f 5 [pa, pb] 0 20000 = some true := by kernel_rfl
theorem may_b : rate_may.f 5 [pa] 0 20000 = some false := by kernel_rfl
theorem chain_a : Chain false false 1 0 4621819117588971520 10000 0 10000 20000 4621819117588971520 0 4621819117588971520 4626322717216342016 4621819117588971520 0 0 4621819117588971520 4617315517961601024 4622382067542392832 4626322717216342016 4626322717216342016 4611686018427387904 4591870180066957722 4626322717216342016 := by
  constructor <;> decide +kernel
set_option maxHeartbeats 2000000 in
theorem awake_calls (W : World) : Calls Try.prog 4 #[] W fun e w' => e = .returned (.bool true) ∧ Below W.heap.size W w' := by
  have hM : May [pa, pb] 0 20000 := by
    refine ⟨by decide, by decide, by decide, by decide, by decide, by decide, by decide, fun i hi => ?_⟩
    obtain rfl : i = 0 := by simp at hi; omega
    decide
  have G1 := fun w (hC : Kd.C k28 w (some ⟨W.heap.size, 0, none⟩) [pa, pb].length [pa, pb]) => grow_yes ⟨#[100, 101, 108, 116, 97]⟩ false false true nm_r nm_i nm_d (Or.inr (Or.inr ⟨rfl, rfl, rfl⟩)) (some ⟨W.heap.size, 0, none⟩) 2 [pa, pb] 0 20000 5 may_a hM
    (fun x hx => by simp only [List.mem_cons, List.mem_nil_iff, or_false] at hx; rcases hx with rfl | rfl <;> decide) (by decide) w hC (by decide) 4621819117588971520 4621819117588971520 10000 0 10000 20000 _ _ _ _ _ _ _ _ _ _ _ _ _ _ _ (show Ieee.double.sub 4621819117588971520 0 = some 4621819117588971520 from by decide +kernel) rfl rfl rfl rfl rfl chain_a
  have G2 := fun w (hC : Kd.C k28 w (some ⟨W.heap.size, 0, none⟩) [pa].length [pa]) => grow_no ⟨#[100, 101, 108, 116, 97]⟩ false false true nm_r nm_i nm_d (Or.inr (Or.inr ⟨rfl, rfl, rfl⟩)) (some ⟨W.heap.size, 0, none⟩) 2 [pa] 0 20000 5 may_b w hC (by decide)
  have G1 := Aside0.mk G1
  have G2 := Aside0.mk G2
  clear hM
  go_enter Try.func4, Try.ntmps4
  go_wp2_with fail
  refine (G1.out _ (C_two _ _ pa pb (by simp; rfl) (by simp; rfl) (by simp; rfl) (by simp; rfl))).mono ?_
  rintro e w1 ⟨rfl, hb1⟩
  have HB1 : Aside0 (Below W.heap.size W w1) := ⟨below_then (below_alloc (Below.refl _ _) _) (by simp) hb1⟩
  have q0 : w1.cell? ⟨W.heap.size, 0, none⟩ = some (.int .i64 10000) := pw_cell_below hb1 (by simp)
  have q1 : w1.cell? ⟨W.heap.size, 1, none⟩ = some (.int .u64 0) := pw_cell_below hb1 (by simp)
  clear hb1
  go_wp2_with fail
  refine (G2.out _ (C_one _ _ pa q0 q1)).mono ?_
  rintro e w2 ⟨rfl, hb2⟩
  have HB2 : Aside0 (Below W.heap.size W w2) := ⟨below_then HB1.out HB1.out.size hb2⟩
  clear hb2
  go_wp2_with fail
  go_ret
  exact ⟨rfl, HB2.out⟩
def rateRises.f (l : List Pt) (s e : Int) : Option Bool := if ∀ x ∈ l, 0 ≤ x.f1 then some true else none
theorem none_is (v : Int) (h0 : 0 ≤ v) : ∃ b, soundingsref04_IsNone.f v = some b := by
  unfold soundingsref04_IsNone.f
  split
  · exact ⟨_, rfl⟩
  · exact ⟨_, rfl⟩
set_option maxHeartbeats 4000000 in
theorem rateRises.calls (A0 : Option Addr) (c0 : Nat) (l : List Pt) (s e : Int) (r : Bool) (w : World) (hC : Kd.C k28 w A0 l.length l) (hc : l.length ≤ c0) (h : rateRises.f l s e = some r) :
    Calls Try.prog 3 #[.slice A0 l.length c0, .int .i64 s, .int .i64 e] w fun en w' => en = .returned (.bool r) ∧ Below w.heap.size w w' := by
  unfold rateRises.f at h
  split at h
  rotate_left
  · cases h
  rename_i hpos
  obtain rfl := Option.some.inj h
  have HP := Aside0.mk hpos
  have HC := Aside0.mk hC
  have hmax : l.length ≤ 9223372036854775807 := hC.2.1
  clear hpos h hC
  go_enter Try.func3, Try.ntmps3
  go_wp2_with fail
  refine (awake_calls _).mono ?_
  rintro en w1 ⟨rfl, hb1⟩
  have HB1 := Aside0.mk hb1
  clear hb1
  by_cases hbig : 400 < l.length
  · have hb2 : ((400 : Int) < (l.length : Int)) = True := eq_true (by omega)
    go_wp2_with fail
    go_ret
    exact ⟨rfl, HB1.out⟩
  have hb2 : ((400 : Int) < (l.length : Int)) = False := eq_false (by omega)
  go_wp2_with fail
  go_loopg [7, 8] l.length (fun kx s7 s8 wr => ∃ (j sum : Nat), s7 = .float .f64 sum ∧ s8 = .int .i64 j ∧ j ≤ l.length ∧ l.length - j ≤ kx ∧ sum ≤ 9218868437227405312 ∧ Aside0 (Below w.heap.size w wr) ∧ Aside0 (∀ i (hi : i < l.length), i < j → l[i].f1 < 9218868437227405312))
  case atStart => exact ⟨0, 0, rfl, rfl, by omega, by omega, by decide, HB1, ⟨fun i hi h => by omega⟩⟩
  case round =>
    obtain ⟨j, sum, rfl, rfl, hj, hgk, hsum, HBr, I⟩ := hrel
    by_cases hlt : j < l.length
    · obtain ⟨ad, rfl, hx0, hx1⟩ := at_T28 (Kd.C_below HC.out HBr.out) (j : Int) (by omega) (by omega)
      rw [rdp_at l j hlt] at hx0 hx1
      rw [Int.toNat_natCast] at hx0 hx1
      have hp := HP.out l[j] (List.getElem_mem _)
      have HX : Aside0 (∀ i (hi : i < l.length), i < j + 1 → l[i].f1 = l[j].f1 ∨ i < j) := ⟨fun i hi h => by
        rcases Nat.lt_or_ge i j with h1 | h1
        · exact Or.inr h1
        · obtain rfl : i = j := by omega
          exact Or.inl rfl⟩
      obtain ⟨x, hx⟩ : ∃ x, x = l[j] := ⟨_, rfl⟩
      rw [← hx] at hx0 hx1 hp HX
      obtain ⟨b, hb⟩ := none_is x.f1 hp
      have HN := fun W => soundingsref04_IsNone.calls x.f1 b W hb
      clear hx hb
      cases b with
      | true =>
        go_wp2_with (go_at_call 5; refine (HN _).mono ?_; rintro en w2 ⟨rfl, hb2'⟩; have HB2 : Aside0 (Below w.heap.size w w2) := ⟨below_then HBr.out HBr.out.size hb2'.below⟩; clear hb2')
        go_ret
        exact ⟨rfl, HB2.out⟩
      | false =>
        by_cases hgt : 9214364837600034816 < x.f1
        · have hg2 : ((9214364837600034816 : Int) < x.f1) = True := eq_true hgt
          go_wp2_with (go_at_call 5; refine (HN _).mono ?_; rintro en w2 ⟨rfl, hb2'⟩; have HB2 : Aside0 (Below w.heap.size w w2) := ⟨below_then HBr.out HBr.out.size hb2'.below⟩; have hy1 := pw_cell_below hb2'.below hx1; clear hb2')
          go_ret
          exact ⟨rfl, HB2.out⟩
        · have hg2 : ((9214364837600034816 : Int) < x.f1) = False := eq_false hgt
          obtain ⟨s2, hs2, hs2i, _⟩ := Flt.add_nn (x := sum) (y := x.f1.toNat) hsum (by omega)
          have hop : ∀ W : World, (binOp .add 24 (.float .f64 sum) (.float .f64 x.f1.toNat)).run Try.prog W = .ok (.float .f64 s2) W := fun W => run_float_arith _ _ _ _ _ _ _ hs2
          clear hs2
          go_wp2_with (first
            | (go_at_call 5; refine (HN _).mono ?_; rintro en w2 ⟨rfl, hb2'⟩; have HB2 : Aside0 (Below w.heap.size w w2) := ⟨below_then HBr.out HBr.out.size hb2'.below⟩; have hy1 := pw_cell_below hb2'.below hx1; clear hb2')
            | (go_at_call 6; refine (float_calls _ _).mono ?_; rintro en w3 ⟨rfl, rfl⟩))
          go_roundg (l.length - (j + 1))
          case measure => omega
          case rel =>
            exact ⟨j + 1, s2, rfl, by go_num, by omega, by omega, hs2i, HB2, ⟨fun i hi h => by
              rcases HX.out i hi h with h1 | h1
              · rw [h1]; omega
              · exact I.out i hi h1⟩⟩
    · have hfin : ∀ x ∈ l, 0 ≤ x.f1 ∧ x.f1 < 9218868437227405312 := by
        intro x hx
        obtain ⟨i, hi, rfl⟩ := List.mem_iff_getElem.1 hx
        exact ⟨HP.out _ hx, I.out i hi (by omega)⟩
      obtain ⟨b1, r1, ⟨k1, hk1⟩, hr1, G1⟩ := grow_counts ⟨#[114, 97, 116, 101]⟩ true false nr_r nr_i (Or.inl ⟨rfl, rfl⟩) A0 c0 l s e hfin (by omega) hc
      obtain ⟨b2, r2, ⟨k2, hk2⟩, hr2, G2⟩ := grow_counts ⟨#[105, 110, 99, 114, 101, 97, 115, 101]⟩ false true ni_r ni_i (Or.inr ⟨rfl, rfl⟩) A0 c0 l s e hfin (by omega) hc
      have g1 := geq_zero hr1
      have g2 := geq_zero hr2
      have hge : ((j : Int) < (l.length : Int)) = False := eq_false (by omega)
      have hM := more_nn (x := sum) (y := 9094988921128908188) hsum (by decide)
      have HI := fun W => isinf_calls sum hsum W
      clear hfin hk1 hk2
      have G1 := Aside0.mk G1
      have G2 := Aside0.mk G2
      by_cases hinf : 9218868437227405311 < sum
      · rw [decide_eq_true hinf] at HI
        go_wp2_with (go_at_call 7; refine (HI _).mono ?_; rintro en w2 ⟨rfl, rfl⟩)
        go_ret
        exact ⟨rfl, HBr.out⟩
      rw [decide_eq_false hinf] at HI
      by_cases hbg : 9094988921128908188 < sum
      · rw [decide_eq_true hbg] at hM
        go_wp2_with (go_at_call 7; refine (HI _).mono ?_; rintro en w2 ⟨rfl, rfl⟩)
        go_ret
        exact ⟨rfl, HBr.out⟩
      rw [decide_eq_false hbg] at hM
      go_wp2_with (go_at_call 7; refine (HI _).mono ?_; rintro en w2 ⟨rfl, rfl⟩)
      refine (G1.out _ (Kd.C_below HC.out HBr.out)).mono ?_
      rintro en w3 ⟨rfl, hb3⟩
      have HB3 : Aside0 (Below w.heap.size w w3) := ⟨below_then HBr.out HBr.out.size hb3⟩
      clear hb3
      go_wp2_with fail
      refine (G2.out _ (Kd.C_below HC.out HB3.out)).mono ?_
      rintro en w4 ⟨rfl, hb4⟩
      have HB4 : Aside0 (Below w.heap.size w w4) := ⟨below_then HB3.out HB3.out.size hb4⟩
      clear hb4
      cases b1 <;> cases b2 <;>
      · go_wp2_with (go_at_call 6; refine (float_calls _ _).mono ?_; rintro en w5 ⟨rfl, rfl⟩)
        go_ret
        exact ⟨by simp [g1, g2], HB4.out⟩
theorem rateRises_pure (l : List Pt) (s e : Int) (ok : ∀ x ∈ l, ((Lit.int .i64 x.f0).wf = true) ∧ ((Lit.int .u64 x.f1).wf = true)) : rateRises.f l s e = some true := by
  unfold rateRises.f
  rw [if_pos]
  intro x hx
  have := (ok x hx).2
  simp only [Lit.wf, Bool.and_eq_true, decide_eq_true_eq] at this
  exact this.1
end Go.Proofs.Ytlelcmkbcejjkaa.F
