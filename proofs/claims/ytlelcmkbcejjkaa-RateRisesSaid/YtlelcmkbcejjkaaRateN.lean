/- rate.Grow by its contract. -/
import Derived.Test.YtlelcmkbcejjkaaRateG
import Derived.Deep.Cut
import Derived.Deep.CutRange
import Derived.BigQuiet
import Derived.Deep.RegionWith
namespace Go.Proofs.Ytlelcmkbcejjkaa.F
open Go.Proofs Go.RowKit Go.Proofs.YtlelcmkbcejjkaaW.PrintWords Go.Proofs.YtlelcmkbcejjkaaW.PrintLast Go.Proofs.YtlelcmkbcejjkaaW.PrintMore
set_option linter.unusedVariables false
set_option linter.unusedSimpArgs false
attribute [local go_sem ↓] Go.wp_at_zero Go.wp_at_succ
abbrev Pt := S28
def May (l : List Pt) (s e : Int) : Prop := 2 ≤ l.length ∧ -4503599627370496 ≤ s ∧ s ≤ 4503599627370496 ∧ -4503599627370496 ≤ e ∧ e ≤ 4503599627370496 ∧ s < (rd_T28 l 0).f0 ∧ (rd_T28 l ((l.length - 1 : Nat) : Int)).f0 ≤ e ∧
  ∀ i : Nat, i + 1 < l.length → (rd_T28 l i).f0 < (rd_T28 l ((i + 1 : Nat) : Int)).f0
theorem may_l0 (l : List Pt) (hl : l.length < 4611686018427387904) (h2 : 2 ≤ l.length) (d : Nat) : ∀ j : Nat, j + d = l.length - 1 → (∀ i : Nat, i < j → (rd_T28 l i).f0 < (rd_T28 l ((i + 1 : Nat) : Int)).f0) → ∀ k, d < k →
    ∃ b, rate_may.l0 k l ((l.drop 1).length : Int) j = some b ∧ (b = true → ∀ i : Nat, i + 1 < l.length → (rd_T28 l i).f0 < (rd_T28 l ((i + 1 : Nat) : Int)).f0) := by
  have hd : (l.drop 1).length = l.length - 1 := List.length_drop
  induction d with
  | zero =>
    intro j hj hi k hk
    obtain ⟨k, rfl⟩ : ∃ m, k = m + 1 := ⟨k - 1, by omega⟩
    refine ⟨true, ?_, fun _ i h => hi i (by omega)⟩
    simp only [rate_may.l0]
    rw [hd, if_neg (by omega)]
  | succ d ih =>
    intro j hj hi k hk
    obtain ⟨k, rfl⟩ : ∃ m, k = m + 1 := ⟨k - 1, by omega⟩
    have w1 : wrap64 ((j : Int) + 1) = ((j + 1 : Nat) : Int) := by unfold wrap64; omega
    simp only [rate_may.l0]
    rw [hd, if_pos (by omega), if_pos (by omega), if_pos (by omega), w1, if_pos (by omega), if_pos (by omega)]
    by_cases c : (rd_T28 l (j : Int)).f0 ≥ (rd_T28 l ((j + 1 : Nat) : Int)).f0
    · rw [if_pos c]
      exact ⟨false, rfl, fun h => by cases h⟩
    · rw [if_neg c, ← hd]
      exact ih (j + 1) (by omega) (fun i h => by
        rcases Nat.lt_or_ge i j with h1 | h1
        · exact hi i h1
        · obtain rfl : i = j := by omega
          omega) k (by omega)
theorem may_ok (l : List Pt) (s e : Int) (hl : l.length < 4611686018427387904) : ∃ k b, rate_may.f k l s e = some b ∧ (b = true → May l s e) := by
  have no : ∃ k b, rate_may.j0 k l true = some b ∧ (b = true → May l s e) := ⟨1, false, by simp only [rate_may.j0]; rw [if_pos trivial], fun h => by cases h⟩
  refine ⟨l.length + 3, ?_⟩
  obtain ⟨k0, hk0⟩ : ∃ k0, k0 = l.length + 2 := ⟨_, rfl⟩
  have hj : ∀ b, rate_may.j0 (l.length + 3) l true = some b → b = false := by
    intro b h
    simp only [rate_may.j0] at h
    rw [if_pos trivial] at h
    exact (Option.some.inj h).symm
  have no : ∃ b, rate_may.j0 (l.length + 3) l true = some b ∧ (b = true → May l s e) := ⟨false, by simp only [rate_may.j0]; rw [if_pos trivial], fun h => by cases h⟩
  unfold rate_may.f
  by_cases c1 : (l.length : Int) < 2
  · rw [if_pos c1]; exact no
  rw [if_neg c1]
  by_cases c2 : s < (-4503599627370496)
  · rw [if_pos c2]; exact no
  rw [if_neg c2]
  by_cases c3 : s > 4503599627370496
  · rw [if_pos c3]; exact no
  rw [if_neg c3]
  by_cases c4 : e < (-4503599627370496)
  · rw [if_pos c4]; exact no
  rw [if_neg c4]
  by_cases c5 : e > 4503599627370496
  · rw [if_pos c5]; exact no
  rw [if_neg c5, if_pos (by omega)]
  by_cases c6 : (rd_T28 l 0).f0 ≤ s
  · rw [if_pos c6]; exact no
  have w1 : wrap64 ((l.length : Int) - 1) = ((l.length - 1 : Nat) : Int) := by unfold wrap64; omega
  rw [if_neg c6, w1, if_pos (by omega), if_pos (by omega)]
  by_cases c7 : (rd_T28 l ((l.length - 1 : Nat) : Int)).f0 > e
  · rw [decide_eq_true c7]; exact no
  rw [decide_eq_false c7]
  obtain ⟨b, h1, h2⟩ := may_l0 l hl (by omega) (l.length - 1) 0 (by omega) (fun i h => by omega) (l.length + 2) (by omega)
  refine ⟨b, ?_, fun hb => ⟨by omega, by omega, by omega, by omega, by omega, by omega, by omega, h2 hb⟩⟩
  simp only [rate_may.j0]
  rw [if_neg (by decide), if_pos (by omega)]
  exact h1
theorem rise_first {l : List Pt} {s e : Int} (h : May l s e) : ∀ i : Nat, 1 ≤ i → i < l.length → (rd_T28 l 0).f0 < (rd_T28 l (i : Int)).f0 := by
  intro i
  induction i with
  | zero => intro h1; omega
  | succ i ih =>
    intro _ h2
    have := h.2.2.2.2.2.2.2 i h2
    rcases Nat.eq_zero_or_pos i with rfl | hi
    · exact this
    · have := ih (by omega) (by omega); omega
/-- All that Grow reckons on its way. -/
structure Chain (cnt rt : Bool) (n f g dB dR dS dT begin rest span total mean d t begin' half most l1 l2 p q r : Nat) : Prop where
  begin_ : Flt.secO dB = some begin
  rest_ : Flt.secO dR = some rest
  span_ : Flt.secO dS = some span
  total_ : Flt.secO dT = some total
  mean_ : Ieee.double.div span (Flt.rung n 0) = some mean
  d_ : 0 < g → Ieee.double.div f g = some d
  t_ : 0 < g → Ieee.double.mul span d = some t
  begin_' : begin' = if cnt = true ∧ 0 < g then (if t < begin then t else begin) else begin
  half_ : Ieee.double.div mean 4611686018427387904 = some half
  most_ : Ieee.double.mul mean 4607632778762754458 = some most
  l1_ : Flt.moreO most half begin' span = some l1
  l2_ : Flt.moreO most half rest l1 = some l2
  p_ : Ieee.double.div l2 span = some p
  q_ : Ieee.double.div p total = some q
  r_ : Ieee.double.mul g (if rt = true then q else p) = some r
  fb : f ≤ 9218868437227405312
  gb : g ≤ 9218868437227405312
  beginb : begin ≤ 9218868437227405312
  begin'b : begin' ≤ 9218868437227405312
  restb : rest ≤ 9218868437227405312
  tb : t ≤ 9218868437227405312
  mostb : most ≤ 9218868437227405312
  rb : r ≤ 9218868437227405312
theorem below_set {B : Nat} {u w : World} {g i : Nat} {a : Value} (hB : B ≤ g) (h : Below B u w) : Below B u (w.setCell ⟨g, i, none⟩ a) := h.setCell hB _
theorem keepF {w W W1 : World} {p0 p1 q0 q1 : Addr} {a b c d : Value} (h : W.cell? p0 = some a ∧ W.cell? p1 = some b ∧ W.cell? q0 = some c ∧ W.cell? q1 = some d ∧ Aside0 (Below w.heap.size w W)) (hb : Below W.heap.size W W1) :
    W1.cell? p0 = some a ∧ W1.cell? p1 = some b ∧ W1.cell? q0 = some c ∧ W1.cell? q1 = some d ∧ Aside0 (Below w.heap.size w W1) := keep4 h hb
theorem set_new (W : World) (a b : Value) (t : TypeId) : (W.alloc (.cells #[a] t)).setCell ⟨W.heap.size, 0, none⟩ b = W.alloc (.cells #[b] t) := by
  rw [World.setCell_alloc_new]; rfl
theorem store_new (W : World) (v u : Nat) : (store ⟨W.heap.size, 0, none⟩ (.float .f64 u)).run Try.prog (W.alloc (.cells #[.float .f64 v] 24)) = .ok () (W.alloc (.cells #[.float .f64 u] 24)) := by
  rw [run_store _ _ _ _ _ rfl]
  simp [set_new]
theorem set_old (W : World) (a b : Value) (t : TypeId) (o : Obj) : ((W.alloc (.cells #[a] t)).alloc o).setCell ⟨W.heap.size, 0, none⟩ b = (W.alloc (.cells #[b] t)).alloc o := by
  rw [World.setCell_alloc_past _ _ _ _ (by simp), set_new]
theorem store_old (W : World) (v u : Nat) (o : Obj) : (store ⟨W.heap.size, 0, none⟩ (.float .f64 u)).run Try.prog ((W.alloc (.cells #[.float .f64 v] 24)).alloc o) = .ok () ((W.alloc (.cells #[.float .f64 u] 24)).alloc o) := by
  rw [run_store _ _ _ _ _ rfl]
  simp [set_old]
theorem store_next (W : World) (v u : Nat) (o : Obj) : (store ⟨W.heap.size + 1, 0, none⟩ (.float .f64 u)).run Try.prog ((W.alloc o).alloc (.cells #[.float .f64 v] 24)) = .ok () ((W.alloc o).alloc (.cells #[.float .f64 u] 24)) := by
  have := store_new (W.alloc o) v u
  simpa using this
attribute [local go_sem] store_new store_old store_next
set_option maxHeartbeats 4000000 in
theorem grow_yes (nm : ByteArray) (rt ic dc : Bool) (h1 : (nm.toList == [114, 97, 116, 101]) = rt) (h2 : (nm.toList == [105, 110, 99, 114, 101, 97, 115, 101]) = ic) (h3 : (nm.toList == [100, 101, 108, 116, 97]) = dc) (hv : (rt = true ∧ ic = false) ∨ (rt = false ∧ ic = true) ∨ (rt = false ∧ ic = false ∧ dc = true))
    (A : Option Addr) (c : Nat) (l : List Pt) (s e : Int) (k : Nat) (hm : rate_may.f k l s e = some true) (hM : May l s e) (hl : ∀ x ∈ l, 0 ≤ x.f1 ∧ x.f1 < 9218868437227405312) (hsz : l.length < 4611686018427387904) (w : World) (hC : Kd.C k28 w A l.length l) (hc : l.length ≤ c)
    (g0 g dB dR dS dT begin rest span total mean d t begin' half most l1 l2 p q r : Nat)
    (hs : Ieee.double.sub (l[l.length - 1]'(by have := hM.1; omega)).f1.toNat (l[0]'(by have := hM.1; omega)).f1.toNat = some g0) (hg : (if (rt || ic) = true then Flt.gainL (vals l) g0 else some g0) = some g)
    (eB : (l[0]'(by have := hM.1; omega)).f0 - s = (dB : Int)) (eR : e - (l[l.length - 1]'(by have := hM.1; omega)).f0 = (dR : Int)) (eS : (l[l.length - 1]'(by have := hM.1; omega)).f0 - (l[0]'(by have := hM.1; omega)).f0 = (dS : Int)) (eT : e - s = (dT : Int))
    (hK : Chain (rt || ic) rt (l.length - 1) (l[0]'(by have := hM.1; omega)).f1.toNat g dB dR dS dT begin rest span total mean d t begin' half most l1 l2 p q r) :
    Calls Try.prog 8 #[.string nm, .slice A l.length c, .int .i64 s, .int .i64 e] w fun en w' => en = .returned (.tuple #[.int .u64 r, .bool true]) ∧ Below w.heap.size w w' := by
  have HM := Aside0.mk (rate_may.calls k A c l s e _ w hC hc hm)
  have h2l : 2 ≤ l.length := hM.1
  have HGN := Aside0.mk fun W (hW : Below w.heap.size w W) => gain_calls A c l (rt || ic) g0 g hl h2l hsz W (Kd.C_below hC hW) hc hs hg
  obtain ⟨ad, rfl, hx0, hx1⟩ := at_T28 hC ((l.length - 1 : Nat) : Int) (by omega) (by omega)
  obtain ⟨ad2, had, hy0, hy1⟩ := at_T28 hC 0 (by omega) (by omega)
  cases had
  have bS := hM.2.1
  have bS2 := hM.2.2.1
  have bE := hM.2.2.2.1
  have bE2 := hM.2.2.2.2.1
  have bF := hM.2.2.2.2.2.1
  have bL := hM.2.2.2.2.2.2.1
  have bFL := rise_first hM (l.length - 1) (by omega) (by omega)
  rw [show (0 : Int) = ((0 : Nat) : Int) from rfl, rdp_at l 0 (by omega)] at bF bFL hy0 hy1
  rw [rdp_at l _ (by omega)] at bL bFL hx0 hx1
  rw [Int.toNat_natCast] at hx0 hx1 hy0 hy1
  rw [show ad.add (0 * 2) = ad by simp [Addr.add]] at hy0 hy1
  obtain ⟨m, hm2⟩ : ∃ m, m = l.length - 1 := ⟨_, rfl⟩
  obtain ⟨x, hx⟩ : ∃ x, x = l[l.length - 1]'(by omega) := ⟨_, rfl⟩
  obtain ⟨y, hy⟩ : ∃ y, y = l[0]'(by omega) := ⟨_, rfl⟩
  rw [← hx] at hx0 hx1 bL bFL eR eS
  rw [← hy] at hy0 hy1 bF bFL eB eS hK
  rw [← hm2] at hx0 hx1 hK
  have e0 : ((0 : Int) < (l.length : Int)) = True := eq_true (by omega)
  have e0n : (0 < l.length) = True := eq_true (by omega)
  have e1 : ((m : Int) < (l.length : Int)) = True := eq_true (by omega)
  have e1n : (m < l.length) = True := eq_true (by omega)
  have e2 : IntKind.i64.wrap ((l.length : Int) - 1) = (m : Int) := by rw [i64_w]; unfold wrap64; omega
  have SB := Aside0.mk fun W => seconds_calls s y.f0 (by omega) (by omega) dB begin eB hK.begin_ W
  have SR := Aside0.mk fun W => seconds_calls x.f0 e (by omega) (by omega) dR rest eR hK.rest_ W
  have SS := Aside0.mk fun W => seconds_calls y.f0 x.f0 (by omega) (by omega) dS span eS hK.span_ W
  have ST := Aside0.mk fun W => seconds_calls s e (by omega) (by omega) dT total eT hK.total_ W
  have HK := Aside0.mk hK
  have HX : Aside0 (∀ W, Below w.heap.size w W → W.cell? (ad.add (m * 2)) = some (.int .i64 x.f0) ∧ W.cell? ⟨(ad.add (m * 2)).block, (ad.add (m * 2)).off + 1, none⟩ = some (.int .u64 x.f1) ∧ W.cell? ad = some (.int .i64 y.f0) ∧ W.cell? ⟨ad.block, ad.off + 1, none⟩ = some (.int .u64 y.f1) ∧ Aside0 (Below w.heap.size w W)) :=
    ⟨fun W hW => ⟨pw_cell_below hW hx0, pw_cell_below hW hx1, pw_cell_below hW hy0, pw_cell_below hW hy1, ⟨hW⟩⟩⟩
  clear hx hy hx0 hx1 hy0 hy1 hm hM hl hC hc hs hg eB eR eS eT hK bS bS2 bE bE2 bF bL bFL hm2 h2l
  go_enter Try.func8, Try.ntmps8
  rcases hv with ⟨rfl, rfl⟩ | ⟨rfl, rfl⟩ | ⟨rfl, rfl, rfl⟩
  · go_wp2_with (go_at_call 12; refine HM.out.mono ?_; rintro en w1 ⟨rfl, hb1⟩; have HB1 : Aside0 (Below w.heap.size w w1) := ⟨hb1.below⟩; clear hb1)
    go_cut [11, 12] from 41 to 49 (fun s11 s12 wx => ∃ b1 b2 : Nat, s11 = .pointer (some ⟨b1, 0, none⟩) ∧ s12 = .pointer (some ⟨b2, 0, none⟩) ∧ wx.cell? ⟨b1, 0, none⟩ = some (.int .i64 y.f0) ∧ wx.cell? ⟨b1, 1, none⟩ = some (.int .u64 y.f1) ∧ wx.cell? ⟨b2, 0, none⟩ = some (.int .i64 x.f0) ∧ wx.cell? ⟨b2, 1, none⟩ = some (.int .u64 x.f1) ∧ Aside0 (Below w.heap.size w wx))
    case first =>
      have hsz1 := HB1.out.size
      have S0 := HX.out w1.drew (below_drew HB1.out)
      go_region_held3 (fun w' => w'.cell? (ad.add (m * 2)) = some (.int .i64 x.f0) ∧ w'.cell? ⟨(ad.add (m * 2)).block, (ad.add (m * 2)).off + 1, none⟩ = some (.int .u64 x.f1) ∧ w'.cell? ad = some (.int .i64 y.f0) ∧ w'.cell? ⟨ad.block, ad.off + 1, none⟩ = some (.int .u64 y.f1) ∧ Aside0 (Below w.heap.size w w'))
        (first | exact S0 | exact HX.out _ (by repeat (first | exact HB1.out | apply below_drew1 | apply below_alloc | (refine below_set (by simp; omega) ?_)))) (fail)
      all_goals (go_wp2_with fail; go_meet; exact ⟨_, _, rfl, rfl, by simp, by simp, by simp, by simp, ⟨below_drew1 (below_alloc (below_alloc HB1.out _) _)⟩⟩)
    case rest =>
      obtain ⟨b1, b2, rfl, rfl, f0, f1, f2, f3, HBx⟩ := hcut
      go_wp2_with (go_at_call 13; refine (HGN.out _ HBx.out).mono ?_; rintro en w2 ⟨rfl, hb2⟩; have HB2 : Aside0 (Below w.heap.size w w2) := ⟨below_then HBx.out HBx.out.size hb2⟩; have q0 := pw_cell_below hb2 f0; have q1 := pw_cell_below hb2 f1; have q2 := pw_cell_below hb2 f2; have q3 := pw_cell_below hb2 f3; clear hb2 f0 f1 f2 f3)
      go_cut [14, 15, 16] from 53 to 65 (fun s14 s15 s16 wx => s14 = .float .f64 begin ∧ s15 = .float .f64 rest ∧ s16 = .float .f64 span ∧ wx.cell? ⟨b1, 0, none⟩ = some (.int .i64 y.f0) ∧ wx.cell? ⟨b1, 1, none⟩ = some (.int .u64 y.f1) ∧ Aside0 (Below w.heap.size w wx))
      case first =>
        have hbd : Below w2.heap.size w2 w2.drew := below_drew (Below.refl _ _)
        go_region_held3 (fun w' => w'.cell? ⟨b1, 0, none⟩ = some (.int .i64 y.f0) ∧ w'.cell? ⟨b1, 1, none⟩ = some (.int .u64 y.f1) ∧ w'.cell? ⟨b2, 0, none⟩ = some (.int .i64 x.f0) ∧ w'.cell? ⟨b2, 1, none⟩ = some (.int .u64 x.f1) ∧ w' = w2.drew)
          (first | exact ⟨pw_cell_below hbd q0, pw_cell_below hbd q1, pw_cell_below hbd q2, pw_cell_below hbd q3, rfl⟩ | assumption)
          (first
            | (go_at_call_of 14 (Value.int .i64 e); refine (SR.out _).mono ?_; rintro en w3 ⟨rfl, rfl⟩)
            | (go_at_call_of 14 (Value.int .i64 s); refine (SB.out _).mono ?_; rintro en w3 ⟨rfl, rfl⟩)
            | (go_at_call 14; refine (SS.out _).mono ?_; rintro en w3 ⟨rfl, rfl⟩))
        all_goals (go_wp2_with fail; go_meet; exact ⟨rfl, rfl, rfl, pw_cell_below hbd q0, pw_cell_below hbd q1, ⟨below_drew HB2.out⟩⟩)
      case rest =>
        obtain ⟨rfl, rfl, rfl, q0, q1, HBx⟩ := hcut
        have K1 : ∀ W : World, (binOp .quo 24 (.float .f64 span) (.float .f64 (Go.floatOfInt .f64 (m : Int)))).run Try.prog W = .ok (.float .f64 mean) W := fun W => run_float_arith _ _ _ _ _ _ _ (by rw [Flt.int_of]; exact HK.out.mean_)
        have K3 : ∀ W : World, (binOp .quo 24 (.float .f64 l2) (.float .f64 span)).run Try.prog W = .ok (.float .f64 p) W := fun W => run_float_arith _ _ _ _ _ _ _ HK.out.p_
        have K4 : ∀ W : World, (binOp .quo 24 (.float .f64 p) (.float .f64 total)).run Try.prog W = .ok (.float .f64 q) W := fun W => run_float_arith _ _ _ _ _ _ _ HK.out.q_
        have T2 := fun W => times_calls mean 4607632778762754458 most HK.out.most_ W
        have T3 := fun W => times_calls g q r (by simpa using HK.out.r_) W
        have C1 := more_nn (x := g) (y := 0) HK.out.gb (by decide)
        have C2 := geq_zero (x := y.f1.toNat) HK.out.fb
        have hlt : b1 < wc.heap.size := World.block_lt_of_cell? wc _ q0
        have hz0 : w.heap.size ≤ wc.heap.size := HBx.out.size
        go_upto_region 8 with fail
        obtain ⟨bm, hbm⟩ : ∃ bm, bm = wc.heap.size := ⟨_, rfl⟩
        rw [← hbm]
        have HBM := Aside0.mk hbm
        clear hbm
        go_cut [81] from 72 to 81 (fun s81 wx => s81 = .bool (decide (0 < g)) ∧ wx.cell? ⟨b1, 0, none⟩ = some (.int .i64 y.f0) ∧ wx.cell? ⟨b1, 1, none⟩ = some (.int .u64 y.f1) ∧ wx.cell? ⟨bm, 0, none⟩ = some (.float .f64 mean) ∧ Aside0 (Below w.heap.size w wx))
        case first =>
          have hA : Below wc.heap.size wc (wc.alloc (.cells #[.float .f64 mean] 24)) := below_alloc (Below.refl _ _) _
          have hm0 : (wc.alloc (.cells #[.float .f64 mean] 24)).cell? ⟨bm, 0, none⟩ = some (.float .f64 mean) := by rw [HBM.out]; simp
          by_cases hg0 : 0 < g
          · rw [decide_eq_true hg0] at C1
            go_wp2_with (go_at_call 15; refine (of_calls _ _ _).mono ?_; rintro en w3 ⟨rfl, rfl⟩)
            go_meet
            have hB := below_alloc (Below.refl (wc.alloc (.cells #[.float .f64 mean] 24)).heap.size (wc.alloc (.cells #[.float .f64 mean] 24))) (.cells #[.int .i64 y.f0, .int .u64 y.f1] 28)
            exact ⟨by rw [decide_eq_true hg0], pw_cell_below hB (pw_cell_below hA q0), pw_cell_below hB (pw_cell_below hA q1), pw_cell_below hB hm0, ⟨below_alloc (below_alloc HBx.out _) _⟩⟩
          · rw [decide_eq_false hg0] at C1
            go_wp2_with fail
            go_meet
            exact ⟨by rw [decide_eq_false hg0], pw_cell_below hA q0, pw_cell_below hA q1, hm0, ⟨below_alloc HBx.out _⟩⟩
        case rest =>
          obtain ⟨rfl, q0, q1, qm, HBy⟩ := hcut
          go_upto_if 81 with fail
          go_cut [14] from 81 to 89 (fun s14 wx => s14 = .float .f64 begin' ∧ wx.cell? ⟨bm, 0, none⟩ = some (.float .f64 mean) ∧ Aside0 (Below w.heap.size w wx))
          case first =>
            by_cases hg0 : 0 < g
            · have eb : begin' = if t < begin then t else begin := by rw [HK.out.begin_']; simp [hg0]
              have K2 : ∀ W : World, (binOp .quo 24 (.float .f64 y.f1.toNat) (.float .f64 g)).run Try.prog W = .ok (.float .f64 d) W := fun W => run_float_arith _ _ _ _ _ _ _ (HK.out.d_ hg0)
              have T1 := fun W => times_calls span d t (HK.out.t_ hg0) W
              have LS : ∀ W, Calls Try.prog 16 #[.float .f64 begin, .float .f64 t] W fun e w' => e = .returned (.float .f64 begin') ∧ w' = W := fun W => by rw [eb]; exact least_calls begin t HK.out.beginb HK.out.tb W
              clear eb
              rw [decide_eq_true hg0]
              go_wp2_with (first
                | (go_at_call 17; refine (T1 _).mono ?_; rintro en w3 ⟨rfl, rfl⟩)
                | (go_at_call 16; refine (LS _).mono ?_; rintro en w3 ⟨rfl, rfl⟩)
                | (go_at_call 15; refine (of_calls _ _ _).mono ?_; rintro en w3 ⟨rfl, rfl⟩))
              go_meet
              exact ⟨rfl, pw_cell_below (below_alloc (Below.refl _ _) _) qm, ⟨below_alloc HBy.out _⟩⟩
            · have eb : begin' = begin := by rw [HK.out.begin_']; simp [hg0]
              rw [decide_eq_false hg0]
              go_wp2_with fail
              go_meet
              exact ⟨by rw [eb], qm, HBy⟩
          case rest =>
            obtain ⟨rfl, qm, HBz⟩ := hcut
            have hbm : bm < wc.heap.size := World.block_lt_of_cell? wc _ qm
            have hzz : w.heap.size ≤ wc.heap.size := HBz.out.size
            go_wp2_with (go_at_call 17; refine (T2 _).mono ?_; rintro en w3 ⟨rfl, rfl⟩)
            refine (more_calls _ _ _ most half mean span begin' l1 HK.out.begin'b HK.out.mostb _ (by simp) (by simp) ?_ (by simp) HK.out.half_ HK.out.l1_).mono ?_
            · exact pw_cell_below (below_alloc (below_alloc (Below.refl _ _) _) _) qm
            rintro en w4 ⟨rfl, rfl⟩
            go_wp2_with fail
            refine (more_calls _ _ _ most half mean l1 rest l2 HK.out.restb HK.out.mostb _ (by simp) (by simp) ?_ (by simp) HK.out.half_ HK.out.l2_).mono ?_
            · exact pw_cell_below (below_alloc (below_alloc (Below.refl _ _) _) _) qm
            rintro en w4 ⟨rfl, rfl⟩
            go_wp2_with (first
              | (go_at_call 14; refine (ST.out _).mono ?_; rintro en w5 ⟨rfl, rfl⟩)
              | (go_at_call 17; refine (T3 _).mono ?_; rintro en w5 ⟨rfl, rfl⟩)
              | (go_at_call 19; refine (norm_calls r HK.out.rb _).mono ?_; rintro en w5 ⟨rfl, rfl⟩))
            go_ret2
            exact ⟨rfl, below_alloc (below_alloc HBz.out _) _⟩
  · go_wp2_with (go_at_call 12; refine HM.out.mono ?_; rintro en w1 ⟨rfl, hb1⟩; have HB1 : Aside0 (Below w.heap.size w w1) := ⟨hb1.below⟩; clear hb1)
    go_cut [11, 12] from 41 to 49 (fun s11 s12 wx => ∃ b1 b2 : Nat, s11 = .pointer (some ⟨b1, 0, none⟩) ∧ s12 = .pointer (some ⟨b2, 0, none⟩) ∧ wx.cell? ⟨b1, 0, none⟩ = some (.int .i64 y.f0) ∧ wx.cell? ⟨b1, 1, none⟩ = some (.int .u64 y.f1) ∧ wx.cell? ⟨b2, 0, none⟩ = some (.int .i64 x.f0) ∧ wx.cell? ⟨b2, 1, none⟩ = some (.int .u64 x.f1) ∧ Aside0 (Below w.heap.size w wx))
    case first =>
      have hsz1 := HB1.out.size
      have S0 := HX.out w1.drew (below_drew HB1.out)
      go_region_held3 (fun w' => w'.cell? (ad.add (m * 2)) = some (.int .i64 x.f0) ∧ w'.cell? ⟨(ad.add (m * 2)).block, (ad.add (m * 2)).off + 1, none⟩ = some (.int .u64 x.f1) ∧ w'.cell? ad = some (.int .i64 y.f0) ∧ w'.cell? ⟨ad.block, ad.off + 1, none⟩ = some (.int .u64 y.f1) ∧ Aside0 (Below w.heap.size w w'))
        (first | exact S0 | exact HX.out _ (by repeat (first | exact HB1.out | apply below_drew1 | apply below_alloc | (refine below_set (by simp; omega) ?_)))) (fail)
      all_goals (go_wp2_with fail; go_meet; exact ⟨_, _, rfl, rfl, by simp, by simp, by simp, by simp, ⟨below_drew1 (below_alloc (below_alloc HB1.out _) _)⟩⟩)
    case rest =>
      obtain ⟨b1, b2, rfl, rfl, f0, f1, f2, f3, HBx⟩ := hcut
      go_wp2_with (go_at_call 13; refine (HGN.out _ HBx.out).mono ?_; rintro en w2 ⟨rfl, hb2⟩; have HB2 : Aside0 (Below w.heap.size w w2) := ⟨below_then HBx.out HBx.out.size hb2⟩; have q0 := pw_cell_below hb2 f0; have q1 := pw_cell_below hb2 f1; have q2 := pw_cell_below hb2 f2; have q3 := pw_cell_below hb2 f3; clear hb2 f0 f1 f2 f3)
      go_cut [14, 15, 16] from 53 to 65 (fun s14 s15 s16 wx => s14 = .float .f64 begin ∧ s15 = .float .f64 rest ∧ s16 = .float .f64 span ∧ wx.cell? ⟨b1, 0, none⟩ = some (.int .i64 y.f0) ∧ wx.cell? ⟨b1, 1, none⟩ = some (.int .u64 y.f1) ∧ Aside0 (Below w.heap.size w wx))
      case first =>
        have hbd : Below w2.heap.size w2 w2.drew := below_drew (Below.refl _ _)
        go_region_held3 (fun w' => w'.cell? ⟨b1, 0, none⟩ = some (.int .i64 y.f0) ∧ w'.cell? ⟨b1, 1, none⟩ = some (.int .u64 y.f1) ∧ w'.cell? ⟨b2, 0, none⟩ = some (.int .i64 x.f0) ∧ w'.cell? ⟨b2, 1, none⟩ = some (.int .u64 x.f1) ∧ w' = w2.drew)
          (first | exact ⟨pw_cell_below hbd q0, pw_cell_below hbd q1, pw_cell_below hbd q2, pw_cell_below hbd q3, rfl⟩ | assumption)
          (first
            | (go_at_call_of 14 (Value.int .i64 e); refine (SR.out _).mono ?_; rintro en w3 ⟨rfl, rfl⟩)
            | (go_at_call_of 14 (Value.int .i64 s); refine (SB.out _).mono ?_; rintro en w3 ⟨rfl, rfl⟩)
            | (go_at_call 14; refine (SS.out _).mono ?_; rintro en w3 ⟨rfl, rfl⟩))
        all_goals (go_wp2_with fail; go_meet; exact ⟨rfl, rfl, rfl, pw_cell_below hbd q0, pw_cell_below hbd q1, ⟨below_drew HB2.out⟩⟩)
      case rest =>
        obtain ⟨rfl, rfl, rfl, q0, q1, HBx⟩ := hcut
        have K1 : ∀ W : World, (binOp .quo 24 (.float .f64 span) (.float .f64 (Go.floatOfInt .f64 (m : Int)))).run Try.prog W = .ok (.float .f64 mean) W := fun W => run_float_arith _ _ _ _ _ _ _ (by rw [Flt.int_of]; exact HK.out.mean_)
        have K3 : ∀ W : World, (binOp .quo 24 (.float .f64 l2) (.float .f64 span)).run Try.prog W = .ok (.float .f64 p) W := fun W => run_float_arith _ _ _ _ _ _ _ HK.out.p_
        have K4 : ∀ W : World, (binOp .quo 24 (.float .f64 p) (.float .f64 total)).run Try.prog W = .ok (.float .f64 q) W := fun W => run_float_arith _ _ _ _ _ _ _ HK.out.q_
        have T2 := fun W => times_calls mean 4607632778762754458 most HK.out.most_ W
        have T3 := fun W => times_calls g p r (by simpa using HK.out.r_) W
        have C1 := more_nn (x := g) (y := 0) HK.out.gb (by decide)
        have C2 := geq_zero (x := y.f1.toNat) HK.out.fb
        have hlt : b1 < wc.heap.size := World.block_lt_of_cell? wc _ q0
        have hz0 : w.heap.size ≤ wc.heap.size := HBx.out.size
        go_upto_region 8 with fail
        obtain ⟨bm, hbm⟩ : ∃ bm, bm = wc.heap.size := ⟨_, rfl⟩
        rw [← hbm]
        have HBM := Aside0.mk hbm
        clear hbm
        go_cut [81] from 72 to 81 (fun s81 wx => s81 = .bool (decide (0 < g)) ∧ wx.cell? ⟨b1, 0, none⟩ = some (.int .i64 y.f0) ∧ wx.cell? ⟨b1, 1, none⟩ = some (.int .u64 y.f1) ∧ wx.cell? ⟨bm, 0, none⟩ = some (.float .f64 mean) ∧ Aside0 (Below w.heap.size w wx))
        case first =>
          have hA : Below wc.heap.size wc (wc.alloc (.cells #[.float .f64 mean] 24)) := below_alloc (Below.refl _ _) _
          have hm0 : (wc.alloc (.cells #[.float .f64 mean] 24)).cell? ⟨bm, 0, none⟩ = some (.float .f64 mean) := by rw [HBM.out]; simp
          by_cases hg0 : 0 < g
          · rw [decide_eq_true hg0] at C1
            go_wp2_with (go_at_call 15; refine (of_calls _ _ _).mono ?_; rintro en w3 ⟨rfl, rfl⟩)
            go_meet
            have hB := below_alloc (Below.refl (wc.alloc (.cells #[.float .f64 mean] 24)).heap.size (wc.alloc (.cells #[.float .f64 mean] 24))) (.cells #[.int .i64 y.f0, .int .u64 y.f1] 28)
            exact ⟨by rw [decide_eq_true hg0], pw_cell_below hB (pw_cell_below hA q0), pw_cell_below hB (pw_cell_below hA q1), pw_cell_below hB hm0, ⟨below_alloc (below_alloc HBx.out _) _⟩⟩
          · rw [decide_eq_false hg0] at C1
            go_wp2_with fail
            go_meet
            exact ⟨by rw [decide_eq_false hg0], pw_cell_below hA q0, pw_cell_below hA q1, hm0, ⟨below_alloc HBx.out _⟩⟩
        case rest =>
          obtain ⟨rfl, q0, q1, qm, HBy⟩ := hcut
          go_upto_if 81 with fail
          go_cut [14] from 81 to 89 (fun s14 wx => s14 = .float .f64 begin' ∧ wx.cell? ⟨bm, 0, none⟩ = some (.float .f64 mean) ∧ Aside0 (Below w.heap.size w wx))
          case first =>
            by_cases hg0 : 0 < g
            · have eb : begin' = if t < begin then t else begin := by rw [HK.out.begin_']; simp [hg0]
              have K2 : ∀ W : World, (binOp .quo 24 (.float .f64 y.f1.toNat) (.float .f64 g)).run Try.prog W = .ok (.float .f64 d) W := fun W => run_float_arith _ _ _ _ _ _ _ (HK.out.d_ hg0)
              have T1 := fun W => times_calls span d t (HK.out.t_ hg0) W
              have LS : ∀ W, Calls Try.prog 16 #[.float .f64 begin, .float .f64 t] W fun e w' => e = .returned (.float .f64 begin') ∧ w' = W := fun W => by rw [eb]; exact least_calls begin t HK.out.beginb HK.out.tb W
              clear eb
              rw [decide_eq_true hg0]
              go_wp2_with (first
                | (go_at_call 17; refine (T1 _).mono ?_; rintro en w3 ⟨rfl, rfl⟩)
                | (go_at_call 16; refine (LS _).mono ?_; rintro en w3 ⟨rfl, rfl⟩)
                | (go_at_call 15; refine (of_calls _ _ _).mono ?_; rintro en w3 ⟨rfl, rfl⟩))
              go_meet
              exact ⟨rfl, pw_cell_below (below_alloc (Below.refl _ _) _) qm, ⟨below_alloc HBy.out _⟩⟩
            · have eb : begin' = begin := by rw [HK.out.begin_']; simp [hg0]
              rw [decide_eq_false hg0]
              go_wp2_with fail
              go_meet
              exact ⟨by rw [eb], qm, HBy⟩
          case rest =>
            obtain ⟨rfl, qm, HBz⟩ := hcut
            have hbm : bm < wc.heap.size := World.block_lt_of_cell? wc _ qm
            have hzz : w.heap.size ≤ wc.heap.size := HBz.out.size
            go_wp2_with (go_at_call 17; refine (T2 _).mono ?_; rintro en w3 ⟨rfl, rfl⟩)
            refine (more_calls _ _ _ most half mean span begin' l1 HK.out.begin'b HK.out.mostb _ (by simp) (by simp) ?_ (by simp) HK.out.half_ HK.out.l1_).mono ?_
            · exact pw_cell_below (below_alloc (below_alloc (Below.refl _ _) _) _) qm
            rintro en w4 ⟨rfl, rfl⟩
            go_wp2_with fail
            refine (more_calls _ _ _ most half mean l1 rest l2 HK.out.restb HK.out.mostb _ (by simp) (by simp) ?_ (by simp) HK.out.half_ HK.out.l2_).mono ?_
            · exact pw_cell_below (below_alloc (below_alloc (Below.refl _ _) _) _) qm
            rintro en w4 ⟨rfl, rfl⟩
            go_wp2_with (first
              | (go_at_call 14; refine (ST.out _).mono ?_; rintro en w5 ⟨rfl, rfl⟩)
              | (go_at_call 17; refine (T3 _).mono ?_; rintro en w5 ⟨rfl, rfl⟩)
              | (go_at_call 19; refine (norm_calls r HK.out.rb _).mono ?_; rintro en w5 ⟨rfl, rfl⟩))
            go_ret2
            exact ⟨rfl, below_alloc (below_alloc HBz.out _) _⟩
  · go_wp2_with (go_at_call 12; refine HM.out.mono ?_; rintro en w1 ⟨rfl, hb1⟩; have HB1 : Aside0 (Below w.heap.size w w1) := ⟨hb1.below⟩; clear hb1)
    go_cut [11, 12] from 41 to 49 (fun s11 s12 wx => ∃ b1 b2 : Nat, s11 = .pointer (some ⟨b1, 0, none⟩) ∧ s12 = .pointer (some ⟨b2, 0, none⟩) ∧ wx.cell? ⟨b1, 0, none⟩ = some (.int .i64 y.f0) ∧ wx.cell? ⟨b1, 1, none⟩ = some (.int .u64 y.f1) ∧ wx.cell? ⟨b2, 0, none⟩ = some (.int .i64 x.f0) ∧ wx.cell? ⟨b2, 1, none⟩ = some (.int .u64 x.f1) ∧ Aside0 (Below w.heap.size w wx))
    case first =>
      have hsz1 := HB1.out.size
      have S0 := HX.out w1.drew (below_drew HB1.out)
      go_region_held3 (fun w' => w'.cell? (ad.add (m * 2)) = some (.int .i64 x.f0) ∧ w'.cell? ⟨(ad.add (m * 2)).block, (ad.add (m * 2)).off + 1, none⟩ = some (.int .u64 x.f1) ∧ w'.cell? ad = some (.int .i64 y.f0) ∧ w'.cell? ⟨ad.block, ad.off + 1, none⟩ = some (.int .u64 y.f1) ∧ Aside0 (Below w.heap.size w w'))
        (first | exact S0 | exact HX.out _ (by repeat (first | exact HB1.out | apply below_drew1 | apply below_alloc | (refine below_set (by simp; omega) ?_)))) (fail)
      all_goals (go_wp2_with fail; go_meet; exact ⟨_, _, rfl, rfl, by simp, by simp, by simp, by simp, ⟨below_drew1 (below_alloc (below_alloc HB1.out _) _)⟩⟩)
    case rest =>
      obtain ⟨b1, b2, rfl, rfl, f0, f1, f2, f3, HBx⟩ := hcut
      go_wp2_with (go_at_call 13; refine (HGN.out _ HBx.out).mono ?_; rintro en w2 ⟨rfl, hb2⟩; have HB2 : Aside0 (Below w.heap.size w w2) := ⟨below_then HBx.out HBx.out.size hb2⟩; have q0 := pw_cell_below hb2 f0; have q1 := pw_cell_below hb2 f1; have q2 := pw_cell_below hb2 f2; have q3 := pw_cell_below hb2 f3; clear hb2 f0 f1 f2 f3)
      go_cut [14, 15, 16] from 53 to 65 (fun s14 s15 s16 wx => s14 = .float .f64 begin ∧ s15 = .float .f64 rest ∧ s16 = .float .f64 span ∧ wx.cell? ⟨b1, 0, none⟩ = some (.int .i64 y.f0) ∧ wx.cell? ⟨b1, 1, none⟩ = some (.int .u64 y.f1) ∧ Aside0 (Below w.heap.size w wx))
      case first =>
        have hbd : Below w2.heap.size w2 w2.drew := below_drew (Below.refl _ _)
        go_region_held3 (fun w' => w'.cell? ⟨b1, 0, none⟩ = some (.int .i64 y.f0) ∧ w'.cell? ⟨b1, 1, none⟩ = some (.int .u64 y.f1) ∧ w'.cell? ⟨b2, 0, none⟩ = some (.int .i64 x.f0) ∧ w'.cell? ⟨b2, 1, none⟩ = some (.int .u64 x.f1) ∧ w' = w2.drew)
          (first | exact ⟨pw_cell_below hbd q0, pw_cell_below hbd q1, pw_cell_below hbd q2, pw_cell_below hbd q3, rfl⟩ | assumption)
          (first
            | (go_at_call_of 14 (Value.int .i64 e); refine (SR.out _).mono ?_; rintro en w3 ⟨rfl, rfl⟩)
            | (go_at_call_of 14 (Value.int .i64 s); refine (SB.out _).mono ?_; rintro en w3 ⟨rfl, rfl⟩)
            | (go_at_call 14; refine (SS.out _).mono ?_; rintro en w3 ⟨rfl, rfl⟩))
        all_goals (go_wp2_with fail; go_meet; exact ⟨rfl, rfl, rfl, pw_cell_below hbd q0, pw_cell_below hbd q1, ⟨below_drew HB2.out⟩⟩)
      case rest =>
        obtain ⟨rfl, rfl, rfl, q0, q1, HBx⟩ := hcut
        have K1 : ∀ W : World, (binOp .quo 24 (.float .f64 span) (.float .f64 (Go.floatOfInt .f64 (m : Int)))).run Try.prog W = .ok (.float .f64 mean) W := fun W => run_float_arith _ _ _ _ _ _ _ (by rw [Flt.int_of]; exact HK.out.mean_)
        have K3 : ∀ W : World, (binOp .quo 24 (.float .f64 l2) (.float .f64 span)).run Try.prog W = .ok (.float .f64 p) W := fun W => run_float_arith _ _ _ _ _ _ _ HK.out.p_
        have K4 : ∀ W : World, (binOp .quo 24 (.float .f64 p) (.float .f64 total)).run Try.prog W = .ok (.float .f64 q) W := fun W => run_float_arith _ _ _ _ _ _ _ HK.out.q_
        have T2 := fun W => times_calls mean 4607632778762754458 most HK.out.most_ W
        have T3 := fun W => times_calls g p r (by simpa using HK.out.r_) W
        have C1 := more_nn (x := g) (y := 0) HK.out.gb (by decide)
        have C2 := geq_zero (x := y.f1.toNat) HK.out.fb
        have hlt : b1 < wc.heap.size := World.block_lt_of_cell? wc _ q0
        have hz0 : w.heap.size ≤ wc.heap.size := HBx.out.size
        go_upto_region 8 with fail
        obtain ⟨bm, hbm⟩ : ∃ bm, bm = wc.heap.size := ⟨_, rfl⟩
        rw [← hbm]
        have HBM := Aside0.mk hbm
        clear hbm
        go_cut [81] from 72 to 81 (fun s81 wx => s81 = .bool false ∧ wx.cell? ⟨b1, 0, none⟩ = some (.int .i64 y.f0) ∧ wx.cell? ⟨b1, 1, none⟩ = some (.int .u64 y.f1) ∧ wx.cell? ⟨bm, 0, none⟩ = some (.float .f64 mean) ∧ Aside0 (Below w.heap.size w wx))
        case first =>
          have hA : Below wc.heap.size wc (wc.alloc (.cells #[.float .f64 mean] 24)) := below_alloc (Below.refl _ _) _
          have hm0 : (wc.alloc (.cells #[.float .f64 mean] 24)).cell? ⟨bm, 0, none⟩ = some (.float .f64 mean) := by rw [HBM.out]; simp
          go_wp2_with fail
          go_meet
          exact ⟨rfl, pw_cell_below hA q0, pw_cell_below hA q1, hm0, ⟨below_alloc HBx.out _⟩⟩
        case rest =>
          obtain ⟨rfl, q0, q1, qm, HBy⟩ := hcut
          go_upto_if 81 with fail
          go_cut [14] from 81 to 89 (fun s14 wx => s14 = .float .f64 begin' ∧ wx.cell? ⟨bm, 0, none⟩ = some (.float .f64 mean) ∧ Aside0 (Below w.heap.size w wx))
          case first =>
            have eb : begin' = begin := by rw [HK.out.begin_']; simp
            go_wp2_with fail
            go_meet
            exact ⟨by rw [eb], qm, HBy⟩
          case rest =>
            obtain ⟨rfl, qm, HBz⟩ := hcut
            have hbm : bm < wc.heap.size := World.block_lt_of_cell? wc _ qm
            have hzz : w.heap.size ≤ wc.heap.size := HBz.out.size
            go_wp2_with (go_at_call 17; refine (T2 _).mono ?_; rintro en w3 ⟨rfl, rfl⟩)
            refine (more_calls _ _ _ most half mean span begin' l1 HK.out.begin'b HK.out.mostb _ (by simp) (by simp) ?_ (by simp) HK.out.half_ HK.out.l1_).mono ?_
            · exact pw_cell_below (below_alloc (below_alloc (Below.refl _ _) _) _) qm
            rintro en w4 ⟨rfl, rfl⟩
            go_wp2_with fail
            refine (more_calls _ _ _ most half mean l1 rest l2 HK.out.restb HK.out.mostb _ (by simp) (by simp) ?_ (by simp) HK.out.half_ HK.out.l2_).mono ?_
            · exact pw_cell_below (below_alloc (below_alloc (Below.refl _ _) _) _) qm
            rintro en w4 ⟨rfl, rfl⟩
            go_wp2_with (first
              | (go_at_call 14; refine (ST.out _).mono ?_; rintro en w5 ⟨rfl, rfl⟩)
              | (go_at_call 17; refine (T3 _).mono ?_; rintro en w5 ⟨rfl, rfl⟩)
              | (go_at_call 19; refine (norm_calls r HK.out.rb _).mono ?_; rintro en w5 ⟨rfl, rfl⟩))
            go_ret2
            exact ⟨rfl, below_alloc (below_alloc HBz.out _) _⟩
end Go.Proofs.Ytlelcmkbcejjkaa.F
