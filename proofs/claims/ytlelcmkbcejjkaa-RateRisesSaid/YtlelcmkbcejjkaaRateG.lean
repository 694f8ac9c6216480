/- rate.gain by its contract. -/
import Derived.Test.YtlelcmkbcejjkaaRateX
import Derived.Test.YtlelcmkbcejjkaaFx0
import Derived.Test.YtlelcmkbcejjkaaFx2
import Derived.Deep.RegionHeld3
import Derived.Deep.DrawnRows
namespace Go.Proofs.Ytlelcmkbcejjkaa.F
open Go.Proofs Go.RowKit Go.Proofs.YtlelcmkbcejjkaaW.PrintWords Go.Proofs.YtlelcmkbcejjkaaW.PrintLast Go.Proofs.YtlelcmkbcejjkaaW.PrintMore
set_option linter.unusedVariables false
set_option linter.unusedSimpArgs false
attribute [local go_sem ↓] Go.wp_at_zero Go.wp_at_succ
theorem of_below (t v : Int) (W : World) :
    Calls Try.prog 15 #[.agg #[.int .i64 t, .int .u64 v]] W fun e w' => e = .returned (.float .f64 v.toNat) ∧ Below W.heap.size W w' :=
  (of_calls t v W).mono fun e w' ⟨h1, h2⟩ => ⟨h1, by rw [h2]; exact below_alloc (Below.refl _ _) _⟩
def Four (w : World) (p0 p1 q0 q1 : Addr) (a b c d : Value) (W : World) : Prop :=
  W.cell? p0 = some a ∧ W.cell? p1 = some b ∧ W.cell? q0 = some c ∧ W.cell? q1 = some d ∧ Aside0 (Below w.heap.size w W)
theorem keep4 {w W W1 : World} {p0 p1 q0 q1 : Addr} {a b c d : Value} (h : W.cell? p0 = some a ∧ W.cell? p1 = some b ∧ W.cell? q0 = some c ∧ W.cell? q1 = some d ∧ Aside0 (Below w.heap.size w W)) (hb : Below W.heap.size W W1) :
    W1.cell? p0 = some a ∧ W1.cell? p1 = some b ∧ W1.cell? q0 = some c ∧ W1.cell? q1 = some d ∧ Aside0 (Below w.heap.size w W1) :=
  ⟨pw_cell_below hb h.1, pw_cell_below hb h.2.1, pw_cell_below hb h.2.2.1, pw_cell_below hb h.2.2.2.1, ⟨below_then h.2.2.2.2.out h.2.2.2.2.out.size hb⟩⟩
theorem rdp_at (l : List S28) (i : Nat) (h : i < l.length) : rd_T28 l (i : Int) = l[i] := by
  simp [rd_T28, List.getD_eq_getElem?_getD, List.getElem?_eq_getElem h]
/-- The words of the values. -/
def vals (l : List S28) : List Nat := l.map fun x => x.f1.toNat
theorem vals_drop {l : List S28} (j : Nat) (h : j + 1 < l.length) : (vals l).drop j = l[j].f1.toNat :: l[j + 1].f1.toNat :: (vals l).drop (j + 2) := by
  have hl : (vals l).length = l.length := by simp [vals]
  rw [List.drop_eq_getElem_cons (by omega), List.drop_eq_getElem_cons (by omega)]
  simp [vals]
set_option maxHeartbeats 2000000 in
theorem gain_calls (A : Option Addr) (c : Nat) (l : List S28) (counts : Bool) (g0 g : Nat) (hl : ∀ x ∈ l, 0 ≤ x.f1 ∧ x.f1 < 9218868437227405312) (h2 : 2 ≤ l.length) (hsz : l.length < 4611686018427387904) (w : World) (hC : Kd.C k28 w A l.length l)
    (hc : l.length ≤ c) (hs : Ieee.double.sub (l[l.length - 1]'(by omega)).f1.toNat (l[0]'(by omega)).f1.toNat = some g0) (hg : (if counts = true then Flt.gainL (vals l) g0 else some g0) = some g) :
    Calls Try.prog 13 #[.slice A l.length c, .bool counts] w fun e w' => e = .returned (.float .f64 g) ∧ Below w.heap.size w w' := by
  have HC := Aside0.mk hC
  have HG := Aside0.mk hg
  have HL := Aside0.mk hl
  obtain ⟨ad, rfl, hx0, hx1⟩ := at_T28 hC ((l.length - 1 : Nat) : Int) (by omega) (by omega)
  obtain ⟨ad2, had, hy0, hy1⟩ := at_T28 hC 0 (by omega) (by omega)
  cases had
  rw [rdp_at l _ (by omega)] at hx0 hx1
  rw [show (0 : Int) = ((0 : Nat) : Int) from rfl, rdp_at l 0 (by omega)] at hy0 hy1
  rw [Int.toNat_natCast] at hx0 hx1 hy0 hy1
  rw [show ad.add (0 * 2) = ad by simp [Addr.add]] at hy0 hy1
  have hq : floatBits .sub .f64 (l[l.length - 1]'(by omega)).f1.toNat (l[0]'(by omega)).f1.toNat = some g0 := hs
  obtain ⟨x, hx⟩ : ∃ x, x = l[l.length - 1]'(by omega) := ⟨_, rfl⟩
  obtain ⟨y, hy⟩ : ∃ y, y = l[0]'(by omega) := ⟨_, rfl⟩
  rw [← hx] at hx0 hx1 hq
  rw [← hy] at hy0 hy1 hq
  obtain ⟨m, hm⟩ : ∃ m, m = l.length - 1 := ⟨_, rfl⟩
  rw [← hm] at hx0 hx1
  have i1 : ((0 : Int) < (l.length : Int)) = True := eq_true (by omega)
  have i1n : (0 < l.length) = True := eq_true (by omega)
  have i2 : ((m : Int) < (l.length : Int)) = True := eq_true (by omega)
  have i2n : (m < l.length) = True := eq_true (by omega)
  have i3 : IntKind.i64.wrap ((l.length : Int) - 1) = (m : Int) := by rw [i64_w]; unfold wrap64; omega
  have HM := Aside0.mk hm
  clear hm
  have i4 : (1 : Int) ≤ (l.length : Int) := by omega
  have i5 : (l.length : Int) ≤ (c : Int) := by omega
  have hop : ∀ W : World, (binOp .sub 24 (.float .f64 x.f1.toNat) (.float .f64 y.f1.toNat)).run Try.prog W = .ok (.float .f64 g0) W := fun W => run_float_arith _ _ _ _ _ _ _ hq
  clear hx hy hs hg hl hC hq
  have S0 : w.drew.cell? (ad.add (m * 2)) = some (.int .i64 x.f0) ∧ w.drew.cell? ⟨(ad.add (m * 2)).block, (ad.add (m * 2)).off + 1, none⟩ = some (.int .u64 x.f1) ∧ w.drew.cell? ad = some (.int .i64 y.f0) ∧ w.drew.cell? ⟨ad.block, ad.off + 1, none⟩ = some (.int .u64 y.f1) ∧ Aside0 (Below w.heap.size w w.drew) :=
    keep4 ⟨hx0, hx1, hy0, hy1, ⟨Below.refl _ _⟩⟩ (below_drew (Below.refl _ _))
  go_enter Try.func13, Try.ntmps13
  go_wp2
  go_region_held3 (fun w' => w'.cell? (ad.add (m * 2)) = some (.int .i64 x.f0) ∧ w'.cell? ⟨(ad.add (m * 2)).block, (ad.add (m * 2)).off + 1, none⟩ = some (.int .u64 x.f1) ∧ w'.cell? ad = some (.int .i64 y.f0) ∧ w'.cell? ⟨ad.block, ad.off + 1, none⟩ = some (.int .u64 y.f1) ∧ Aside0 (Below w.heap.size w w'))
    (first | exact S0 | exact keep4 (by assumption) (by assumption))
    (first | (go_at_call 15; refine (of_below _ _ _).mono ?_; rintro e w2 ⟨rfl, hb2⟩))
  all_goals go_wp2
  have HB := (‹_ ∧ _ ∧ _ ∧ _ ∧ Aside0 (Below w.heap.size w w2)›).2.2.2.2
  clear S0 i1 i1n i2 i2n i3 hop hx0 hx1 hy0 hy1
  cases counts with
  | false =>
    obtain rfl : g0 = g := Option.some.inj (by simpa using HG.out)
    go_loopg [5, 22] (l.length - 1) (fun kx s5 s22 wr => ∃ j : Nat, s5 = .float .f64 g0 ∧ s22 = .int .i64 j ∧ j ≤ l.length - 1 ∧ l.length - 1 - j ≤ kx ∧ Aside0 (Below w.heap.size w wr))
    case atStart => exact ⟨0, rfl, rfl, by omega, by omega, HB⟩
    case round =>
      obtain ⟨j, rfl, rfl, hj, hgk, HBr⟩ := hrel
      by_cases hlt : j < l.length - 1
      · go_wp2
        go_quiet (fail)
        go_wp2
        go_roundg (l.length - 1 - (j + 1))
        case measure => omega
        case rel => exact ⟨j + 1, rfl, by go_num, by omega, by omega, ⟨pw_below_drewN HBr.out _⟩⟩
      · have hge : ((j : Int) < ((l.length - 1 : Nat) : Int)) = False := eq_false (by omega)
        go_wp2
        go_ret
        exact ⟨rfl, HBr.out⟩
  | true =>
    have HG2 : Aside0 (Flt.gainL (vals l) g0 = some g) := ⟨by simpa using HG.out⟩
    clear HG
    go_loopg [5, 22] (l.length - 1) (fun kx s5 s22 wr => ∃ (j ga : Nat), s5 = .float .f64 ga ∧ s22 = .int .i64 j ∧ j ≤ l.length - 1 ∧ l.length - 1 - j ≤ kx ∧ Aside0 (Below w.heap.size w wr) ∧ Aside0 (Flt.gainL ((vals l).drop j) ga = some g))
    case atStart => exact ⟨0, g0, rfl, rfl, by omega, by omega, HB, HG2⟩
    case round =>
      obtain ⟨j, ga, rfl, rfl, hj, hgk, HBr, I⟩ := hrel
      by_cases hlt : j < l.length - 1
      · have HCr := Aside0.mk (Kd.C_below HC.out HBr.out)
        obtain ⟨ad1, had1, hx0, hx1⟩ := at_T28 HCr.out ((j + 1 : Nat) : Int) (by omega) (by omega)
        cases had1
        obtain ⟨ad2, had2, hy0, hy1⟩ := at_T28 HCr.out (j : Int) (by omega) (by omega)
        cases had2
        rw [rdp_at l _ (by omega)] at hx0 hx1 hy0 hy1
        rw [Int.toNat_natCast] at hx0 hx1 hy0 hy1
        have hI := I.out
        rw [vals_drop j (by omega)] at hI
        simp only [Flt.gainL] at hI
        have hbx := HL.out l[j + 1] (List.getElem_mem _)
        have hby := HL.out l[j] (List.getElem_mem _)
        obtain ⟨x1, hx⟩ : ∃ x1, x1 = l[j + 1]'(by omega) := ⟨_, rfl⟩
        obtain ⟨y1, hy⟩ : ∃ y1, y1 = l[j]'(by omega) := ⟨_, rfl⟩
        rw [← hx] at hx0 hx1 hI hbx
        rw [← hy] at hy0 hy1 hI hby
        have hord := less_nn (x := y1.f1.toNat) (y := x1.f1.toNat) (by omega) (by omega)
        have e1 : ((j : Int) < ((l.length - 1 : Nat) : Int)) = True := eq_true (by omega)
        have e2 : ((j : Int) < (l.length : Int)) = True := eq_true (by omega)
        have e2n : (j < l.length) = True := eq_true (by omega)
        obtain ⟨u, hu⟩ : ∃ u, u = j + 1 := ⟨_, rfl⟩
        rw [← hu] at hx0 hx1
        have e3 : IntKind.i64.wrap ((j : Int) + 1) = (u : Int) := by rw [i64_w]; unfold wrap64; omega
        have e4 : ((u : Int) < (l.length : Int)) = True := eq_true (by omega)
        have e4n : (u < l.length) = True := eq_true (by omega)
        have hgu : l.length - 1 - u < gk ∧ u ≤ l.length - 1 := by omega
        have hd2 : (vals l).drop (j + 1) = x1.f1.toNat :: (vals l).drop (j + 2) := by
          have := congrArg List.tail (vals_drop j (show j + 1 < l.length by omega))
          rw [List.tail_drop] at this
          rw [this, ← hx]; rfl
        have HD2 := Aside0.mk hd2
        have S1 : wr.drew.cell? (ad.add (u * 2)) = some (.int .i64 x1.f0) ∧ wr.drew.cell? ⟨(ad.add (u * 2)).block, (ad.add (u * 2)).off + 1, none⟩ = some (.int .u64 x1.f1) ∧ wr.drew.cell? (ad.add (j * 2)) = some (.int .i64 y1.f0) ∧ wr.drew.cell? ⟨(ad.add (j * 2)).block, (ad.add (j * 2)).off + 1, none⟩ = some (.int .u64 y1.f1) ∧ Aside0 (Below w.heap.size w wr.drew) :=
          keep4 ⟨hx0, hx1, hy0, hy1, HBr⟩ (below_drew (Below.refl _ _))
        rw [← hu] at HD2
        clear hx hy hd2 hbx hby hx0 hx1 hy0 hy1 hu
        by_cases hc2 : x1.f1.toNat < y1.f1.toNat
        · rw [decide_eq_true hc2] at hord
          rw [if_pos hc2] at hI
          obtain ⟨gb, hgb, hI2⟩ := Option.bind_eq_some_iff.1 hI
          have hop2 : ∀ W : World, (binOp .add 24 (.float .f64 ga) (.float .f64 y1.f1.toNat)).run Try.prog W = .ok (.float .f64 gb) W := fun W => run_float_arith _ _ _ _ _ _ _ hgb
          have HI2 : Aside0 (Flt.gainL ((vals l).drop u) gb = some g) := ⟨by rw [HD2.out]; exact hI2⟩
          clear hI hI2 hgb hc2 HD2
          go_wp2
          go_region_held3 (fun w' => w'.cell? (ad.add (u * 2)) = some (.int .i64 x1.f0) ∧ w'.cell? ⟨(ad.add (u * 2)).block, (ad.add (u * 2)).off + 1, none⟩ = some (.int .u64 x1.f1) ∧ w'.cell? (ad.add (j * 2)) = some (.int .i64 y1.f0) ∧ w'.cell? ⟨(ad.add (j * 2)).block, (ad.add (j * 2)).off + 1, none⟩ = some (.int .u64 y1.f1) ∧ Aside0 (Below w.heap.size w w'))
            (first | exact S1 | exact keep4 (by assumption) (by assumption))
            (first | (go_at_call 15; refine (of_below _ _ _).mono ?_; rintro e w3 ⟨rfl, hb3⟩))
          have HB3 := (‹_ ∧ _ ∧ _ ∧ _ ∧ Aside0 (Below w.heap.size w w3)›).2.2.2.2
          have hy0 := (‹_ ∧ _ ∧ w3.cell? (ad.add (j * 2)) = some (.int .i64 y1.f0) ∧ _ ∧ Aside0 (Below w.heap.size w w3)›).2.2.1
          have hy1 := (‹_ ∧ _ ∧ w3.cell? (ad.add (j * 2)) = some (.int .i64 y1.f0) ∧ _ ∧ Aside0 (Below w.heap.size w w3)›).2.2.2.1
          go_wp2
          go_roundg (l.length - 1 - u)
          case measure => omega
          case rel => exact ⟨u, gb, rfl, by first | rfl | go_num, by omega, by omega, ⟨below_alloc HB3.out _⟩, HI2⟩
        · rw [decide_eq_false hc2] at hord
          rw [if_neg hc2] at hI
          have HI2 : Aside0 (Flt.gainL ((vals l).drop u) ga = some g) := ⟨by rw [HD2.out]; exact hI⟩
          clear hI hc2 HD2
          go_wp2
          go_region_held3 (fun w' => w'.cell? (ad.add (u * 2)) = some (.int .i64 x1.f0) ∧ w'.cell? ⟨(ad.add (u * 2)).block, (ad.add (u * 2)).off + 1, none⟩ = some (.int .u64 x1.f1) ∧ w'.cell? (ad.add (j * 2)) = some (.int .i64 y1.f0) ∧ w'.cell? ⟨(ad.add (j * 2)).block, (ad.add (j * 2)).off + 1, none⟩ = some (.int .u64 y1.f1) ∧ Aside0 (Below w.heap.size w w'))
            (first | exact S1 | exact keep4 (by assumption) (by assumption))
            (first | (go_at_call 15; refine (of_below _ _ _).mono ?_; rintro e w3 ⟨rfl, hb3⟩))
          have HB3 := (‹_ ∧ _ ∧ _ ∧ _ ∧ Aside0 (Below w.heap.size w w3)›).2.2.2.2
          go_wp2
          go_roundg (l.length - 1 - u)
          case measure => omega
          case rel => exact ⟨u, ga, rfl, by first | rfl | go_num, by omega, by omega, HB3, HI2⟩
      · have hge : ((j : Int) < ((l.length - 1 : Nat) : Int)) = False := eq_false (by omega)
        have HE : Aside0 (ga = g) := ⟨by
          have hI := I.out
          have hlen : (vals l).length = l.length := by simp [vals]
          have ej : j = l.length - 1 := by omega
          rw [List.drop_eq_getElem_cons (by omega), List.drop_eq_nil_of_le (by omega)] at hI
          simpa [Flt.gainL] using hI⟩
        go_wp2
        go_ret
        exact ⟨by rw [HE.out]; rfl, HBr.out⟩
end Go.Proofs.Ytlelcmkbcejjkaa.F
