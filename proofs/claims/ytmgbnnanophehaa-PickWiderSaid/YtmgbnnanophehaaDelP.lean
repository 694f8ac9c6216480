/- slices.IndexFunc, Clone, DeleteFunc at a flat struct of two cells (S29): contracts. -/
import Derived.Test.YtmgbnnanophehaaTwo
import Derived.Test.YtmgbnnanophehaaPx0
import Derived.Deep.LoopGhost
import Derived.Lib.Hide
namespace Go.Proofs.Ytmgbnnanophehaa.P
open Go.Proofs Go.Proofs.Ytmgbnnanophehaa.Two
open Go.RowKit Go.Proofs.YtmgbnnanophehaaW.PrintWords Go.Proofs.YtmgbnnanophehaaW.PrintLast Go.Proofs.YtmgbnnanophehaaW.PrintMore
set_option linter.unusedVariables false
set_option linter.unusedSimpArgs false

theorem pt_rd (l : List S29) (i : Nat) (h : i < l.length) : rd_T29 l (i : Int) = l[i] := by
  simp [rd_T29, List.getD_eq_getElem?_getD, List.getElem?_eq_getElem h]
theorem pt_KM {w w1 : World} {base : Nat} {ok : Nat → Prop} {x : S29} {cs : List Value} (h : k29.K w x cs) : k29.M w1 base ok x cs := by
  obtain rfl := k29_open h
  exact k29_mkM _ _ _ _
def pt_0 (x : S29) : Value := .int .i64 x.f0
def pt_1 (x : S29) : Value := .int .u64 x.f1
theorem pt_two {w : World} {B : Nat} {ok : Nat → Prop} {v : Value} {l : List S29} (h : Kd.R k29 29 w B ok v l) :
    (v = .slice none 0 0 ∧ l = []) ∨ ∃ g cap, v = .slice (some ⟨g, 0, none⟩) l.length cap ∧ B ≤ g ∧ TwoBlk 29 pt_0 pt_1 w g cap l := by
  obtain ⟨_, inner, ho, hl, hr⟩ := h
  refine own_two ho l rfl fun j hj => ?_
  have h2 := hr j _ (List.getElem?_eq_getElem hj)
  have h3 := k29_openM h2
  have hlen : (j * 2) + 2 ≤ inner.length := by
    have : inner.length = l.length * 2 := hl
    omega
  have h4 : (inner.drop (j * 2)).take 2 = [pt_0 l[j], pt_1 l[j]] := h3
  constructor
  · have := congrArg (fun z => z[0]?) h4
    simpa [List.getElem?_take, List.getElem?_drop] using this
  · have := congrArg (fun z => z[1]?) h4
    simpa [List.getElem?_take, List.getElem?_drop] using this
theorem pt_R {w : World} {B g cap : Nat} {l : List S29} (h : TwoBlk 29 pt_0 pt_1 w g cap l) (hB : B ≤ g) :
    Kd.R k29 29 w B (fun _ => True) (.slice (some ⟨g, 0, none⟩) l.length cap) l := by
  refine ⟨fun _ _ => trivial, _, two_own h hB, ?_⟩
  have key : ∀ (l : List S29), Reps (k29.M w B (fun k => True ∧ some k ≠ (Value.slice (some ⟨g, 0, none⟩) l.length cap).ownBlock)) 2 l (l.flatMap fun x => [pt_0 x, pt_1 x]) := by
    intro l
    have gen : ∀ (ok : Nat → Prop) (l : List S29), Reps (k29.M w B ok) 2 l (l.flatMap fun x => [pt_0 x, pt_1 x]) := by
      intro ok l
      induction l with
      | nil => exact Reps.none _ _
      | cons x r ih =>
        have h1 := Reps.snoc (Reps.none (k29.M w B ok) 2) (p := x) (c := [pt_0 x, pt_1 x]) (k29_mkM w B ok x) rfl
        have h2 := Kd.reps_append h1 ih
        simpa [List.flatMap_cons] using h2
    exact gen _ l
  exact key l

/-- What is asked of a predicate that is handed over: in every world in which what lay below B lies unturned. -/
def pt_Pred (G : Nat) (cb : Array Value) (p : S29 → Bool) (B : Nat) (w : World) : Prop :=
  ∀ (W : World) (x : S29), Below B w W → B ≤ W.heap.size → Calls Try.prog G (#[.agg #[.int .i64 x.f0, .int .u64 x.f1]] ++ cb) W fun e w' => e = .returned (.bool (p x)) ∧ Below W.heap.size W w'

set_option maxHeartbeats 1000000 in
theorem pt_idx (G : Nat) (cb : Array Value) (p : S29 → Bool) (A : Option Addr) (c : Nat) (l : List S29) (B : Nat) (w : World) (hB : B ≤ w.heap.size) (hC : Kd.C k29 w A l.length l)
    (eg : ∀ args w, (callFunc G args).run Try.prog w = .ok (.enter G args) w) (hp : pt_Pred G cb p B w) :
    Calls Try.prog 45 #[.slice A l.length c, .func (.func G) #[] cb] w fun e w' => e = .returned (.int .i64 (idxP p l)) ∧ Below w.heap.size w w' := by
  have hn : l.length ≤ 9223372036854775807 := hC.2.1
  have HC : Aside0 (Kd.C k29 w A l.length l) := ⟨hC⟩
  have HP : Aside0 (pt_Pred G cb p B w) := ⟨hp⟩
  have HBB : Aside0 (B ≤ w.heap.size) := ⟨hB⟩
  clear hC hp hB
  go_enter Try.func45, Try.ntmps45
  go_wp2
  go_loopg [8] l.length (fun kx s8 wr => ∃ j : Nat, s8 = .int .i64 j ∧ j ≤ l.length ∧ l.length - j ≤ kx ∧ Aside0 (Below w.heap.size w wr) ∧ Aside0 (∀ i (hi : i < l.length), i < j → p l[i] = false))
  case atStart => exact ⟨0, rfl, by omega, by omega, ⟨Below.refl _ _⟩, ⟨fun i hi h => by omega⟩⟩
  case round =>
    obtain ⟨j, rfl, hj, hg, HB, I⟩ := hrel
    by_cases hlt : j < l.length
    · obtain ⟨ad, rfl, hx0, hx1⟩ := at_T29 (Kd.C_below HC.out HB.out) j (by omega) (by omega)
      rw [Int.toNat_natCast] at hx0 hx1
      have hc := HP.out wr (rd_T29 l j) (HB.out.mono HBB.out) (Nat.le_trans HBB.out HB.out.size)
      have er : Aside0 (rd_T29 l (j : Int) = l[j]) := ⟨pt_rd l j hlt⟩
      generalize rd_T29 l (j : Int) = x at hx0 hx1 hc er
      cases hb : p x <;> rw [hb] at hc <;> have HX : Aside0 (p x = _) := ⟨hb⟩ <;> clear hb
      · go_wp2_with (go_at_fn G; refine hc.mono ?_; rintro e w1 ⟨rfl, hb1⟩)
        go_roundg (l.length - (j + 1))
        case measure => omega
        case rel => exact ⟨j + 1, by go_num, by omega, by omega, ⟨below_then HB.out HB.out.size hb1⟩, ⟨fun i hi h => by
          rcases Nat.lt_or_ge i j with h' | h'
          · exact I.out i hi h'
          · obtain rfl : i = j := by omega
            rw [← er.out]; exact HX.out⟩⟩
      · go_wp2_with (go_at_fn G; refine hc.mono ?_; rintro e w1 ⟨rfl, hb1⟩)
        go_ret
        exact ⟨congrArg (fun n : Int => Ending.returned (.int .i64 n)) (idxP_hit p l j hlt (fun i hi => I.out i (by omega) hi) (by rw [← er.out]; exact HX.out)).symm, below_then HB.out HB.out.size hb1⟩
    · have E : Aside0 (idxP p l = -1) := ⟨idxP_none p l fun i hi => I.out i hi (by omega)⟩
      go_wp2
      go_ret
      exact ⟨congrArg (fun n : Int => Ending.returned (.int .i64 n)) E.out.symm, HB.out⟩

set_option maxHeartbeats 1000000 in
theorem pt_clone (A : Option Addr) (c : Nat) (l : List S29) (w : World) (hC : Kd.C k29 w A l.length l) (hb : l.length * 16 ≤ 140737488355328) :
    Calls Try.prog 38 #[.slice A l.length c] w fun e w' => ∃ v, e = .returned v ∧ Kd.R k29 29 w' w.heap.size (fun _ => True) v l ∧ Below w.heap.size w w' := by
  cases A with
  | none =>
    have hl : l = [] := by
      cases l with
      | nil => rfl
      | cons x r => obtain ⟨ad, e, _⟩ := hC.2.2 (by simp); cases e
    subst hl
    have heq := fun w => Lib.run_eql_slice_nil (P := Try.prog) w 22 29 none 0 c 0 0 Try.underlying22
    go_enter Try.func38, Try.ntmps38
    go_wp2
    go_ret
    exact ⟨_, rfl, Kd.R_nil _ _ _ _ _, Below.refl _ _⟩
  | some ad =>
    have HC : Aside0 (Kd.C k29 (w.alloc (.cells #[] 29)) (some ad) l.length l) := ⟨Kd.C_below hC (below_alloc (Below.refl _ _) _)⟩
    have HO : Aside0 (Kd.R k29 29 (w.alloc (.cells #[] 29)) w.heap.size (fun _ => True) (.slice (some ⟨w.heap.size, 0, none⟩) 0 0) []) :=
      ⟨fun _ _ => trivial, OwnRow.lit w w.heap.size (Reps.none _ _) (Nat.le_refl _) (by simp)⟩
    have HB : Aside0 (Below w.heap.size w (w.alloc (.cells #[] 29))) := ⟨below_alloc (Below.refl _ _) _⟩
    have HL : Aside0 ((([] : List S29).length + l.length) * 16 ≤ 140737488355328) := ⟨by simpa using hb⟩
    clear hC hb
    have heq := fun w => Lib.run_eql_slice_nil (P := Try.prog) w 22 29 (some ad) l.length c 0 0 Try.underlying22
    go_enter Try.func38, Try.ntmps38
    go_wp2_with (at_builtin; refine Kd.R_append_rows k29 (w0 := w) w.heap.size rfl _ _ 22 29 _ 16 rfl Try.underlying22 info29 rfl (by decide) (by decide) _ [] l (some ad) l.length c (fun _ => True) (fun _ => False) rfl rfl HO.out HC.out (fun _ _ h => pt_KM h) (fun _ h => h.elim) (fun _ _ => trivial) HB.out HB.out.size HL.out ?_; intro v1 w1 hR1 hB1 hg1 hat1; have HR1 := Aside0.mk hR1; have HB1 := Aside0.mk hB1; clear hR1 hB1 hg1 hat1)
    go_ret
    exact ⟨_, rfl, HR1.out, HB1.out⟩

set_option maxHeartbeats 2000000 in
theorem pt_del (G : Nat) (cb : Array Value) (p : S29 → Bool) (v : Value) (l : List S29) (B : Nat) (w : World) (hB : B ≤ w.heap.size) (hR : Kd.R k29 29 w B (fun _ => True) v l)
    (eg : ∀ args w, (callFunc G args).run Try.prog w = .ok (.enter G args) w) (hp : pt_Pred G cb p B w) :
    Calls Try.prog 37 #[v, .func (.func G) #[] cb] w fun e w' => ∃ v', e = .returned v' ∧ Kd.R k29 29 w' B (fun _ => True) v' (l.filter (fun x => !p x)) ∧ Below B w w' := by
  obtain ⟨A, c, rfl, hlc, hC⟩ := Kd.R_reads hR
  have hidx := pt_idx G cb p A c l B w hB hC eg hp
  have HR : Aside0 (Kd.R k29 29 w B (fun _ => True) (.slice A l.length c) l) := ⟨hR⟩
  have HP : Aside0 (pt_Pred G cb p B w) := ⟨hp⟩
  have HBB : Aside0 (B ≤ w.heap.size) := ⟨hB⟩
  have HI := Aside0.mk (idxP_cases p l)
  clear hC hp hB hR
  rcases HI.out with ⟨h1, h2⟩ | ⟨i0, h1, hi0, h3⟩
  · rw [h1] at hidx
    have H2 := Aside0.mk h2
    clear h1 h2
    go_enter Try.func37, Try.ntmps37
    go_wp2_with (go_at_call 45; refine hidx.mono ?_; rintro e w1 ⟨rfl, hb1⟩)
    go_ret
    exact ⟨_, rfl, by rw [H2.out]; exact Kd.R_below HR.out hb1, hb1.mono HBB.out⟩
  · rw [h1] at hidx
    have H3 := Aside0.mk h3
    have hmax : l.length ≤ 9223372036854775807 := (Kd.R_reads HR.out).choose_spec.choose_spec.2.2.2.1
    rcases pt_two HR.out with ⟨hv, rfl⟩ | ⟨g, cap, hv, hBg, hT⟩
    · simp at hi0
    injection hv with e1 e2 e3
    subst e1 e3
    have HT := Aside0.mk hT
    have HBg := Aside0.mk hBg
    clear h1 h3 hT hBg e2
    have hi0z : (i0 : Int) < (l.length : Int) := by omega
    have hne : ((i0 : Int) == -1) = false := by rw [beq_eq_false_iff_ne]; omega
    go_enter Try.func37, Try.ntmps37
    go_wp2_with (go_at_call 45; refine hidx.mono ?_; rintro e w1 ⟨rfl, hb1⟩; have HB1 := Aside0.mk hb1; clear hb1)
    go_loopg [5, 6] l.length (fun kx s5 s6 wr => ∃ (i j : Nat) (ys : List S29), s5 = .int .i64 i ∧ s6 = .int .i64 j ∧ l.length - j ≤ kx ∧ i < j ∧ j ≤ l.length ∧ Aside0 (Del p l ys i j) ∧ Aside0 (TwoBlk 29 pt_0 pt_1 wr g c ys) ∧ Aside0 (Below B w wr))
    case atStart => exact ⟨i0, i0 + 1, l, rfl, by go_num, by omega, by omega, by omega, ⟨Del.start hi0 H3.out⟩, ⟨HT.out.below HB1.out HT.out.lt⟩, ⟨HB1.out.mono HBB.out⟩⟩
    case round =>
      obtain ⟨i, j, ys, rfl, rfl, hg, hij, hjl, HD, HY, HB⟩ := hrel
      by_cases hlt : j < l.length
      · obtain ⟨hj1, hj2⟩ := HD.out.at_ hlt
        obtain ⟨hx0, hx1⟩ := HY.out.cell j hj1
        rw [hj2] at hx0 hx1
        have hBr : B ≤ wr.heap.size := Nat.le_of_lt (Nat.lt_of_le_of_lt HBg.out HY.out.lt)
        obtain ⟨x, hx⟩ : ∃ x, l[j] = x := ⟨_, rfl⟩
        rw [hx] at hx0 hx1
        have hc := HP.out (wr.alloc (.cells #[.int .i64 x.f0, .int .u64 x.f1] 29)) x (HB.out.alloc hBr _) (by simp; omega)
        have HX := Aside0.mk hx
        clear hj2 hx
        change wr.cell? ⟨g, j * 2, none⟩ = some (.int .i64 x.f0) at hx0
        change wr.cell? ⟨g, j * 2 + 1, none⟩ = some (.int .u64 x.f1) at hx1
        have hY1 := HY.out.below (below_alloc (Below.refl _ _) (.cells #[.int .i64 x.f0, .int .u64 x.f1] 29)) HY.out.lt
        have hgl : g < (wr.alloc (.cells #[.int .i64 x.f0, .int .u64 x.f1] 29)).heap.size := hY1.lt
        have HY1 := Aside0.mk hY1
        have HGL := Aside0.mk hgl
        have HBR := Aside0.mk hBr
        clear hY1 hgl hBr
        cases hb : p x <;> rw [hb] at hc <;> have HX2 : Aside0 (p x = _) := ⟨hb⟩ <;> clear hb
        · have hiy : i < ys.length := by omega
          go_wp2_with (go_at_fn G; refine hc.mono ?_; rintro e w2 ⟨rfl, hb2⟩; have HB2 := Aside0.mk hb2; have HY2 := Aside0.mk (HY1.out.below hb2 HGL.out); have hq0 : w2.cell? ⟨wr.heap.size, 0, none⟩ = some (.int .i64 x.f0) := (hb2.cell (p := ⟨wr.heap.size, 0, none⟩) (by simp)).trans (by simp); have hq1 : w2.cell? ⟨wr.heap.size, 1, none⟩ = some (.int .u64 x.f1) := (hb2.cell (p := ⟨wr.heap.size, 1, none⟩) (by simp)).trans (by simp); have hr0 := (HY2.out.cell i hiy).1; have hr1 := (HY2.out.cell i hiy).2; have hf0 := HY2.out.frozen (i * 2); have hf1 := HY2.out.frozen (i * 2 + 1); clear hb2)
          go_roundg (l.length - (j + 1))
          case measure => omega
          case rel => exact ⟨i + 1, j + 1, ys.set i x, by go_num, by go_num, by omega, by omega, by omega, ⟨by have := HD.out.keep_ hij hlt (by rw [HX.out]; exact HX2.out); rw [HX.out] at this; exact this⟩, ⟨HY2.out.set_ i hiy x⟩, ⟨below_set2 (below_then (HB.out.alloc HBR.out _) (by simp; have := HBR.out; omega) HB2.out) HBg.out⟩⟩
        · go_wp2_with (go_at_fn G; refine hc.mono ?_; rintro e w2 ⟨rfl, hb2⟩; have HB2 := Aside0.mk hb2; clear hb2)
          go_roundg (l.length - (j + 1))
          case measure => omega
          case rel => exact ⟨i, j + 1, ys, rfl, by go_num, by omega, by omega, by omega, ⟨HD.out.drop_ hlt (by rw [HX.out]; exact HX2.out)⟩, ⟨HY1.out.below HB2.out HGL.out⟩, ⟨below_then (HB.out.alloc HBR.out _) (by simp; have := HBR.out; omega) HB2.out⟩⟩
      · have ej : j = l.length := by omega
        have HF := Aside0.mk (HD.out.done ej)
        have HLL := Aside0.mk HD.out.len
        have HC0 : Aside0 (i < ys.length) := ⟨by have := HD.out.len; omega⟩
        have hii : i < l.length := by omega
        obtain ⟨vs, hcl⟩ : ∃ vs, (Builtin.clear_ #[22] 0 #[.slice (some ⟨g, i * 2, none⟩) (l.length - i) (c - i)]).run Try.prog wr = .ok (.tuple #[]) (wr.setCells g (i * 2) vs) := by
          have := run_clear_two HY.out 22 0 (.int .i64 0) (.int .u64 0) Try.underlying22 (fun _ => by kernel_rfl) rfl rfl i HC0.out (c - i)
          rwa [HD.out.len] at this
        clear ej
        go_wp2_with (simp only [hcl])
        go_ret
        have hY := HY.out.clear_ i (by have := HC0.out; omega) vs
        rw [HF.out] at hY
        have hlen : (l.filter (fun x => !p x)).length = i := by rw [← HF.out, List.length_take]; have := HC0.out; omega
        have hR := pt_R hY HBg.out
        rw [hlen] at hR
        exact ⟨_, rfl, hR, below_setCells HBg.out _ _ HB.out⟩
end Go.Proofs.Ytmgbnnanophehaa.P
