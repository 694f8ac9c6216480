/- store.Find by its contract. Series as rows of two opaque cells: slices.Clone, slices.Insert. slices.Insert of one series into a row of the call's own. store.Append by its contract. What the printed functions of stores come to. Stores: what the document fixes; what Append comes to, in short. -/
import Derived.Test.YtlelcmkbcejjkaaDoorStoN
import Derived.Test.YtlelcmkbcejjkaaDoorLabH
import Derived.Test.YtlelcmkbcejjkaaDoorLx27
import Derived.Test.YtlelcmkbcejjkaaDoorLx30
import Derived.Deep.LoopGhost
import Derived.Lib.Hide
import Derived.Test.YtlelcmkbcejjkaaDoorLabA
import Derived.Lib.Overlaps
import Derived.Lib.AppendZerosOnto
import Derived.StillTailTactics
import Derived.Laws.Externs
import Derived.Laws.IdiomCopy
import Derived.Deep.AppendSrc
import Derived.Shelf.Spec.SlicesInsert
import Derived.Deep.RegionHeld3
import Derived.Test.YtlelcmkbcejjkaaDoorLx22
import Derived.Deep.DrawnRows
import Derived.BigQuiet
import Derived.Deep.QuietTactic
import Derived.Test.YtlelcmkbcejjkaaDoorLabL
import Derived.Test.YtlelcmkbcejjkaaDoorLx26
import Derived.Test.YtlelcmkbcejjkaaDoorLx76
import Derived.Test.YtlelcmkbcejjkaaDoorLx74
import Derived.Test.YtlelcmkbcejjkaaDoorLx65
namespace Go.Proofs.YtlelcmkbcejjkaaDoor.L
open Go.Proofs Go.Proofs.YtlelcmkbcejjkaaDoor.Two Go.Proofs.YtlelcmkbcejjkaaDoor.Lab Go.Proofs.YtlelcmkbcejjkaaDoor.Cmp Go.Proofs.YtlelcmkbcejjkaaDoor.Sto
open Go.RowKit Go.Proofs.YtlelcmkbcejjkaaDoorW.PrintWords Go.Proofs.YtlelcmkbcejjkaaDoorW.PrintLast Go.Proofs.YtlelcmkbcejjkaaDoorW.PrintMore
set_option linter.unusedVariables false
set_option linter.unusedSimpArgs false
theorem se_rd (l : List Se) (i : Nat) (h : i < l.length) : rd_T59 l (i : Int) = l[i] := by
  simp [rd_T59, List.getD_eq_getElem?_getD, List.getElem?_eq_getElem h]
/-- A series that is read. -/
structure SeAt (w : World) (x : Se) (A0 : Option Addr) (c0 : Nat) (A1 : Option Addr) (c1 : Nat) : Prop where
  l0 : x.f0.length ≤ c0
  g0 : Kd.C k67 w A0 x.f0.length x.f0
  l1 : x.f1.length ≤ c1
  g1 : Kd.C k40 w A1 x.f1.length x.f1
theorem SeAt.below {w w1 : World} {x : Se} {A0 : Option Addr} {c0 : Nat} {A1 : Option Addr} {c1 : Nat} (h : SeAt w x A0 c0 A1 c1) (hb : RowKit.Below w.heap.size w w1) : SeAt w1 x A0 c0 A1 c1 :=
  ⟨h.l0, Kd.C_below h.g0 hb, h.l1, Kd.C_below h.g1 hb⟩
def se_Pred (G : Nat) (cb : Array Value) (p : Se → Bool) (w : World) : Prop :=
  ∀ (W : World) (x : Se) (A0 : Option Addr) (c0 : Nat) (A1 : Option Addr) (c1 : Nat), RowKit.Below w.heap.size w W → SeAt W x A0 c0 A1 c1 → Calls Tryd.prog G (#[.agg #[.slice A0 x.f0.length c0, .slice A1 x.f1.length c1]] ++ cb) W fun e w' => e = .returned (.bool (p x)) ∧ RowKit.Below W.heap.size W w'
set_option maxHeartbeats 1000000 in
theorem se_idx (G : Nat) (cb : Array Value) (p : Se → Bool) (A : Option Addr) (c : Nat) (l : List Se) (w : World) (hC : Kd.C k59 w A l.length l)
    (eg : ∀ args w, (callFunc G args).run Tryd.prog w = .ok (.enter G args) w) (hp : se_Pred G cb p w) :
    Calls Tryd.prog 49 #[.slice A l.length c, .func (.func G) #[] cb] w fun e w' => e = .returned (.int .i64 (idxP p l)) ∧ RowKit.Below w.heap.size w w' := by
  have hn : l.length ≤ 9223372036854775807 := hC.2.1
  have HC := Aside0.mk hC
  have HP := Aside0.mk hp
  clear hC hp
  go_enter Tryd.func49, Tryd.ntmps49
  go_wp2
  go_loopg [8] l.length (fun kx s8 wr => ∃ j : Nat, s8 = .int .i64 j ∧ j ≤ l.length ∧ l.length - j ≤ kx ∧ Aside0 (RowKit.Below w.heap.size w wr) ∧ Aside0 (∀ i (hi : i < l.length), i < j → p l[i] = false))
  case atStart => exact ⟨0, rfl, by omega, by omega, ⟨RowKit.Below.refl _ _⟩, ⟨fun i hi h => by omega⟩⟩
  case round =>
    obtain ⟨j, rfl, hj, hg, HB, I⟩ := hrel
    by_cases hlt : j < l.length
    · obtain ⟨ad, A0, c0, A1, c1, rfl, hx0, hx1, g1, g2, g3, g4⟩ := at_T59 (Kd.C_below HC.out HB.out) j (by omega) (by omega)
      rw [Int.toNat_natCast] at hx0 hx1
      have hc := HP.out wr (rd_T59 l j) A0 c0 A1 c1 HB.out ⟨g1, g2, g3, g4⟩
      have er : Aside0 (rd_T59 l (j : Int) = l[j]) := ⟨se_rd l j hlt⟩
      clear g1 g2 g3 g4
      generalize rd_T59 l (j : Int) = x at hx0 hx1 hc er
      cases hb : p x <;> rw [hb] at hc <;> have HX : Aside0 (p x = _) := ⟨hb⟩ <;> clear hb
      · go_wp2_with (go_at_fn G; refine hc.mono ?_; rintro e w1 ⟨rfl, hb1⟩)
        go_roundg (l.length - (j + 1))
        case measure => omega
        case rel => exact ⟨j + 1, by go_num, by omega, by omega, ⟨below_then HB.out HB.out.size hb1⟩, ⟨fun i hi h => by
          rcases Nat.lt_or_ge i j with h' | h'
          · exact I.out i hi h'
          · obtain rfl : i = j := by omega
            rw [← er.out]; exact HX.out⟩⟩
      · go_wp2_with (go_at_fn G; refine hc.mono ?_; rintro e w1 ⟨rfl, hb1⟩)
        go_ret
        exact ⟨congrArg (fun n : Int => Ending.returned (.int .i64 n)) (idxP_hit p l j hlt (fun i hi => I.out i (by omega) hi) (by rw [← er.out]; exact HX.out)).symm, below_then HB.out HB.out.size hb1⟩
    · have E : Aside0 (idxP p l = -1) := ⟨idxP_none p l fun i hi => I.out i hi (by omega)⟩
      go_wp2
      go_ret
      exact ⟨congrArg (fun n : Int => Ending.returned (.int .i64 n)) E.out.symm, HB.out⟩
/-- The closure of Find: is a series of those labels? -/
theorem find_clo (b : Nat) (A : Option Addr) (c : Nat) (m : List Lb) (w : World) (hb : w.cell? ⟨b, 0, none⟩ = some (.slice A m.length c)) (hC : Kd.C k67 w A m.length m) (hc : m.length ≤ c) (hG : GL w) :
    se_Pred 50 #[.pointer (some ⟨b, 0, none⟩)] (fun x => decide (cL x.f0 m = 0)) w := by
  intro W x A0 c0 A1 c1 hW hx
  have HB : RowKit.Below W.heap.size W (W.alloc (.cells #[.slice A0 x.f0.length c0, .slice A1 x.f1.length c1] 59)) := below_alloc (RowKit.Below.refl _ _) _
  have hlt : b < w.heap.size := World.block_lt_of_cell? w _ hb
  have hltW : b < W.heap.size := Nat.lt_of_lt_of_le hlt hW.size
  have hb2 : W.cell? ⟨b, 0, none⟩ = some (.slice A m.length c) := (hW.cell (p := ⟨b, 0, none⟩) hlt).trans hb
  have hCM := label_Cmp.calls A0 c0 x.f0 A c m _ (W.alloc (.cells #[.slice A0 x.f0.length c0, .slice A1 x.f1.length c1] 59)) (Kd.C_below hx.g0 HB) hx.l0 (Kd.C_below (Kd.C_below hC hW) HB) hc ((hG.below hW).below HB) rfl
  have HCM := Aside0.mk hCM
  have hb3 : (W.alloc (.cells #[.slice A0 x.f0.length c0, .slice A1 x.f1.length c1] 59)).cell? ⟨b, 0, none⟩ = some (.slice A m.length c) := pw_cell_below HB hb2
  show Calls Tryd.prog 50 #[.agg #[.slice A0 x.f0.length c0, .slice A1 x.f1.length c1], .pointer (some ⟨b, 0, none⟩)] W fun e w' => e = .returned (.bool (decide (cL x.f0 m = 0))) ∧ RowKit.Below W.heap.size W w'
  clear hCM hx hC hG hb hlt hb2 hW
  obtain ⟨r, hr⟩ : ∃ r, r = cL x.f0 m := ⟨_, rfl⟩
  have hcl : cmpLs ordL x.f0 m = r := hr.symm
  rw [hcl] at HCM
  rw [← hr]
  clear hr hcl
  go_enter Tryd.func50, Tryd.ntmps50
  go_wp2_with (go_at_call 51; refine HCM.out.mono ?_; rintro e w1 ⟨rfl, hb1⟩; have HB1 := Aside0.mk hb1; clear hb1)
  go_ret
  exact ⟨by by_cases h : r = 0 <;> simp [h], below_then HB HB.size HB1.out⟩
/-- A series of a store that is right has labels that are less where a later one's are. -/
theorem reached_mono {s : List Se} {m : List Lb} (h : s.Pairwise (fun a b => cL a.f0 b.f0 < 0)) {i j : Nat} (hi : i < s.length) (hj : j < s.length) (hij : i ≤ j) (hm : cL s[j].f0 m < 0) : cL s[i].f0 m < 0 := by
  rcases Nat.lt_or_eq_of_le hij with h1 | rfl
  · exact ord_c.trans _ _ _ (List.pairwise_iff_getElem.1 h i j hi hj h1) hm
  · exact hm
theorem geAt_of (s : List Se) (m : List Lb) (k : Nat) (hk : k ≤ s.length) (h1 : ∀ i (h : i < s.length), i < k → cL s[i].f0 m < 0) (h2 : ∀ h : k < s.length, ¬ cL s[k].f0 m < 0) : geAt s m = k := by
  unfold geAt
  rcases Nat.lt_or_eq_of_le hk with h | rfl
  · rw [List.findIdx_eq h]
    exact ⟨decide_eq_true (by have := h2 h; omega), fun i hi => decide_eq_false (by have := h1 i (by omega) hi; omega)⟩
  · rw [List.findIdx_eq_length]
    intro x hx
    obtain ⟨i, hi, rfl⟩ := List.mem_iff_getElem.1 hx
    have := h1 i hi hi
    exact decide_eq_false (by omega)
set_option maxHeartbeats 2000000 in
theorem store_search (A : Option Addr) (c : Nat) (s : List Se) (A1 : Option Addr) (c1 : Nat) (m : List Lb) (w : World) (hs : s.Pairwise (fun a b => cL a.f0 b.f0 < 0)) (hsz : s.length < 4611686018427387904)
    (hC : Kd.C k59 w A s.length s) (hc : s.length ≤ c) (hC1 : Kd.C k67 w A1 m.length m) (hc1 : m.length ≤ c1) (hG : GL w) :
    Calls Tryd.prog 52 #[.int .i64 s.length, .func (.func 53) #[.agg #[.slice A s.length c, .slice A1 m.length c1]] #[]] w fun e w' =>
      e = .returned (.int .i64 (geAt s m : Nat)) ∧ RowKit.Below w.heap.size w w' := by
  have eg : ∀ args w, (callFunc 53 args).run Tryd.prog w = .ok (.enter 53 args) w := enters_of Tryd.func53 (by kernel_rfl) rfl
  have HR := Aside0.mk hs
  have HCALL : Aside0 (∀ (i : Nat) (W : World), (hi : i < s.length) → RowKit.Below w.heap.size w W → Calls Tryd.prog 53 #[.agg #[.slice A s.length c, .slice A1 m.length c1], .int .i64 (i : Int)] W fun e w' => e = .returned (.bool (decide (0 ≤ cL s[i].f0 m))) ∧ RowKit.Below W.heap.size W w') :=
    ⟨fun i W hi hW => store_search_reached.calls A c s A1 c1 m i _ W (Kd.C_below hC hW) hc (Kd.C_below hC1 hW) hc1 (hG.below hW) (by
      unfold store_search_reached.f
      rw [if_pos (by omega), if_pos (by omega), se_rd s i hi]
      rfl)⟩
  clear hs hC hc hC1 hc1 hG
  go_enter Tryd.func52, Tryd.ntmps52
  go_wp2
  go_loopg [5, 6] s.length (fun kx s5 s6 wr => ∃ (lo hi : Nat), s5 = .int .i64 lo ∧ s6 = .int .i64 hi ∧ lo ≤ hi ∧ hi ≤ s.length ∧ hi - lo ≤ kx ∧ Aside0 (RowKit.Below w.heap.size w wr) ∧
    Aside0 ((∀ i (h : i < s.length), i < lo → cL s[i].f0 m < 0) ∧ (∀ h : hi < s.length, ¬ cL s[hi].f0 m < 0)))
  case atStart => exact ⟨0, s.length, rfl, rfl, Nat.zero_le _, Nat.le_refl _, by omega, ⟨RowKit.Below.refl _ _⟩, ⟨fun i h hi => by omega, fun h => by omega⟩⟩
  case round =>
    obtain ⟨lo, hi, rfl, rfl, hlh, hin, hg, HB, I⟩ := hrel
    by_cases hlt : lo < hi
    · obtain ⟨q, hq⟩ : ∃ q, q = (lo + hi) / 2 := ⟨_, rfl⟩
      have hb : lo ≤ q ∧ q < hi := by omega
      have hqs : q < s.length := by omega
      have hc := HCALL.out q wr hqs HB.out
      rw [show (q : Int) = ((lo : Int) + (hi : Int)) / 2 by omega] at hc
      have MM : Aside0 (q = (lo + hi) / 2) := ⟨hq⟩
      clear hq
      by_cases hp : 0 ≤ cL s[q].f0 m
      · rw [decide_eq_true hp] at hc
        have HP := Aside0.mk hp
        clear hp
        go_wp2_with (go_at_call 53; refine hc.mono ?_; rintro e w' ⟨rfl, hb1⟩; have HB1 : Aside0 (RowKit.Below w.heap.size w w') := ⟨below_then HB.out HB.out.size hb1⟩; clear hb1)
        go_roundg (q - lo)
        case measure => omega
        case rel =>
          have em := MM.out
          exact ⟨lo, q, rfl, by rw [show ((lo : Int) + (hi : Int)) / 2 = ((q : Nat) : Int) by omega], by omega, by omega, Nat.le_refl _, HB1, ⟨I.out.1, fun h => by have := HP.out; omega⟩⟩
      · rw [decide_eq_false hp] at hc
        have HP := Aside0.mk hp
        clear hp
        go_wp2_with (go_at_call 53; refine hc.mono ?_; rintro e w' ⟨rfl, hb1⟩; have HB1 : Aside0 (RowKit.Below w.heap.size w w') := ⟨below_then HB.out HB.out.size hb1⟩; clear hb1)
        go_roundg (hi - (q + 1))
        case measure => omega
        case rel =>
          have em := MM.out
          exact ⟨q + 1, hi, by rw [show ((lo : Int) + (hi : Int)) / 2 + 1 = ((q + 1 : Nat) : Int) by omega], rfl, by omega, hin, Nat.le_refl _, HB1, ⟨fun i h hi' => reached_mono HR.out h hqs (by omega) (by have := HP.out; omega), I.out.2⟩⟩
    · obtain rfl : hi = lo := by omega
      have E : Aside0 (geAt s m = hi) := ⟨geAt_of s m hi hin I.out.1 I.out.2⟩
      go_wp2
      go_ret
      exact ⟨congrArg (fun n : Nat => Ending.returned (.int .i64 n)) E.out.symm, HB.out⟩
theorem idx_has_ (s : List Se) (m : List Lb) : (hasS s m = true ∧ idxP (fun x => decide (cL x.f0 m = 0)) s = (eqAt s m : Nat) ∧ eqAt s m < s.length) ∨ (hasS s m = false ∧ idxP (fun x => decide (cL x.f0 m = 0)) s = -1) := by
  by_cases h : eqAt s m < s.length
  · left
    refine ⟨?_, ?_, h⟩
    · unfold hasS; rw [List.any_eq_true]
      exact List.findIdx_lt_length.1 h
    · exact if_pos h
  · right
    refine ⟨?_, ?_⟩
    · rw [Bool.eq_false_iff]
      intro h2
      unfold hasS at h2; rw [List.any_eq_true] at h2
      exact h (List.findIdx_lt_length.2 h2)
    · exact if_neg h
def findI (s : List Se) (m : List Lb) : Nat := if hasS s m = true then eqAt s m else geAt s m
set_option maxHeartbeats 4000000 in
theorem find_calls (A : Option Addr) (c : Nat) (s : List Se) (A1 : Option Addr) (c1 : Nat) (m : List Lb) (w : World) (hk : ∃ k, store_Right.f k s = some (decide (StOk s))) (hsz : s.length < 4611686018427387904)
    (hC : Kd.C k59 w A s.length s) (hc : s.length ≤ c) (hC1 : Kd.C k67 w A1 m.length m) (hc1 : m.length ≤ c1) (hG : GL w) :
    Calls Tryd.prog 24 #[.slice A s.length c, .slice A1 m.length c1] w fun e w' =>
      e = .returned (.tuple #[.int .i64 (findI s m : Nat), .bool (hasS s m)]) ∧ RowKit.Below w.heap.size w w' := by
  obtain ⟨k, hk⟩ := hk
  -- the world behind the two boxes
  have H1 : Aside0 (∀ (b : Nat) (W : World), RowKit.Below w.heap.size w W → W.cell? ⟨b, 0, none⟩ = some (.slice A1 m.length c1) →
      Calls Tryd.prog 49 #[.slice A s.length c, .func (.func 50) #[] #[.pointer (some ⟨b, 0, none⟩)]] W fun e w' => e = .returned (.int .i64 (idxP (fun x => decide (cL x.f0 m = 0)) s)) ∧ RowKit.Below W.heap.size W w') :=
    ⟨fun b W hW hb => se_idx 50 #[.pointer (some ⟨b, 0, none⟩)] _ A c s W (Kd.C_below hC hW) (enters_of Tryd.func50 (by kernel_rfl) rfl) (find_clo b A1 c1 m W hb (Kd.C_below hC1 hW) hc1 (hG.below hW))⟩
  have H2 : Aside0 (∀ W, RowKit.Below w.heap.size w W → Calls Tryd.prog 38 #[.slice A s.length c] W fun e w' => e = .returned (.bool (decide (StOk s))) ∧ RowKit.Below W.heap.size W w') :=
    ⟨fun W hW => store_Right.calls k A c s _ W (Kd.C_below hC hW) hc (hG.below hW) hk⟩
  have H3 : Aside0 (StOk s → ∀ W, RowKit.Below w.heap.size w W → Calls Tryd.prog 52 #[.int .i64 s.length, .func (.func 53) #[.agg #[.slice A s.length c, .slice A1 m.length c1]] #[]] W fun e w' =>
      e = .returned (.int .i64 (geAt s m : Nat)) ∧ RowKit.Below W.heap.size W w') :=
    ⟨fun hs W hW => store_search A c s A1 c1 m W hs.2 hsz (Kd.C_below hC hW) hc (Kd.C_below hC1 hW) hc1 (hG.below hW)⟩
  have H4 : Aside0 (∀ (i : Nat) (W : World), (hi : i < s.length) → RowKit.Below w.heap.size w W → Calls Tryd.prog 53 #[.agg #[.slice A s.length c, .slice A1 m.length c1], .int .i64 (i : Int)] W fun e w' => e = .returned (.bool (decide (0 ≤ cL s[i].f0 m))) ∧ RowKit.Below W.heap.size W w') :=
    ⟨fun i W hi hW => store_search_reached.calls A c s A1 c1 m i _ W (Kd.C_below hC hW) hc (Kd.C_below hC1 hW) hc1 (hG.below hW) (by
      unfold store_search_reached.f
      rw [if_pos (by omega), if_pos (by omega), se_rd s i hi]
      rfl)⟩
  have HI := Aside0.mk (idx_has_ s m)
  have hF : Aside0 (findI s m = if hasS s m = true then eqAt s m else geAt s m) := ⟨rfl⟩
  clear hC hc hC1 hc1 hG hk
  go_enter Tryd.func24, Tryd.ntmps24
  rcases HI.out with ⟨h1, h2, h3⟩ | ⟨h1, h2⟩
  · rw [h2] at H1
    rw [h1] at hF ⊢
    rw [if_pos rfl] at hF
    rw [hF.out]
    clear h1 h2 HI hF
    go_wp2_with fail
    refine (H1.out _ _ (below_alloc (below_alloc (RowKit.Below.refl _ _) _) _) (by simp)).mono ?_
    rintro e w1 ⟨rfl, hb1⟩
    have HB1 : Aside0 (RowKit.Below w.heap.size w w1) := ⟨below_then (below_alloc (below_alloc (RowKit.Below.refl _ _) _) _) (by simp; omega) hb1⟩
    clear hb1
    go_wp2_with fail
    go_ret2
    exact ⟨rfl, HB1.out⟩
  · rw [h2] at H1
    rw [h1] at hF ⊢
    rw [if_neg (by decide)] at hF
    rw [hF.out]
    clear h1 h2 HI hF
    go_wp2_with fail
    refine (H1.out _ _ (below_alloc (below_alloc (RowKit.Below.refl _ _) _) _) (by simp)).mono ?_
    rintro e w1 ⟨rfl, hb1⟩
    have HB1 : Aside0 (RowKit.Below w.heap.size w w1) := ⟨below_then (below_alloc (below_alloc (RowKit.Below.refl _ _) _) _) (by simp; omega) hb1⟩
    have q0 : w1.cell? ⟨w.heap.size + 1, 0, none⟩ = some (.slice A s.length c) := pw_cell_below hb1 (by simp)
    have q1 : w1.cell? ⟨w.heap.size + 1, 1, none⟩ = some (.slice A1 m.length c1) := pw_cell_below hb1 (by simp)
    clear hb1
    go_wp2_with fail
    refine (H2.out _ HB1.out).mono ?_
    rintro e w2 ⟨rfl, hb2⟩
    have HB2 : Aside0 (RowKit.Below w.heap.size w w2) := ⟨below_then HB1.out HB1.out.size hb2⟩
    have r0 := pw_cell_below hb2 q0
    have r1 := pw_cell_below hb2 q1
    clear hb2 q0 q1
    by_cases hok : StOk s
    · have hS := H3.out hok
      rw [decide_eq_true hok]
      go_wp2_with fail
      refine (hS _ HB2.out).mono ?_
      rintro e w3 ⟨rfl, hb3⟩
      have HB3 : Aside0 (RowKit.Below w.heap.size w w3) := ⟨below_then HB2.out HB2.out.size hb3⟩
      clear hb3
      go_wp2_with fail
      go_ret2
      exact ⟨rfl, HB3.out⟩
    · rw [decide_eq_false hok]
      have R2 := Aside0.mk (And.intro r0 r1)
      clear r0 r1
      go_wp2_with fail
      go_loopg [7] s.length (fun kx s7 wr => ∃ j : Nat, s7 = .int .i64 j ∧ j ≤ s.length ∧ s.length - j ≤ kx ∧ Aside0 (RowKit.Below w.heap.size w wr) ∧ Aside0 (wr.cell? ⟨w.heap.size + 1, 0, none⟩ = some (.slice A s.length c) ∧ wr.cell? ⟨w.heap.size + 1, 1, none⟩ = some (.slice A1 m.length c1)) ∧ Aside0 (∀ i (h : i < s.length), i < j → cL s[i].f0 m < 0))
      case atStart => exact ⟨0, rfl, by omega, by omega, HB2, R2, ⟨fun i h hi => by omega⟩⟩
      case round =>
        obtain ⟨j, rfl, hj, hg, HB, Q, I⟩ := hrel
        have r0 := Q.out.1
        have r1 := Q.out.2
        by_cases hlt : j < s.length
        · have hcl := H4.out j wr hlt HB.out
          by_cases hp : 0 ≤ cL s[j].f0 m
          · rw [decide_eq_true hp] at hcl
            have E : Aside0 (geAt s m = j) := ⟨geAt_of s m j (by omega) I.out (fun h => by omega)⟩
            go_wp2_with (go_at_call 53; refine hcl.mono ?_; rintro e w' ⟨rfl, hb1⟩; have HB1 : Aside0 (RowKit.Below w.heap.size w w') := ⟨below_then HB.out HB.out.size hb1⟩; clear hb1)
            go_ret2
            exact ⟨by rw [E.out]; rfl, HB1.out⟩
          · rw [decide_eq_false hp] at hcl
            have HP := Aside0.mk hp
            go_wp2_with (go_at_call 53; refine hcl.mono ?_; rintro e w' ⟨rfl, hb1⟩; have HB1 : Aside0 (RowKit.Below w.heap.size w w') := ⟨below_then HB.out HB.out.size hb1⟩; have Q1 := Aside0.mk (And.intro (pw_cell_below hb1 r0) (pw_cell_below hb1 r1)); clear hb1)
            go_roundg (s.length - (j + 1))
            case measure => omega
            case rel => exact ⟨j + 1, by go_num, by omega, by omega, HB1, Q1, ⟨fun i h hi => by
              rcases Nat.lt_or_ge i j with h1 | h1
              · exact I.out i h h1
              · obtain rfl : i = j := by omega
                have := HP.out; omega⟩⟩
        · have E : Aside0 (geAt s m = j) := ⟨geAt_of s m j (by omega) I.out (fun h => by omega)⟩
          go_wp2_with fail
          go_ret2
          exact ⟨by rw [E.out]; rfl, HB.out⟩
end Go.Proofs.YtlelcmkbcejjkaaDoor.L
namespace Go.Proofs.YtlelcmkbcejjkaaDoor.L
open Go.Proofs Go.Proofs.YtlelcmkbcejjkaaDoor.Two Go.Proofs.YtlelcmkbcejjkaaDoor.Lab Go.Proofs.YtlelcmkbcejjkaaDoor.Sto
open Go.RowKit Go.Proofs.YtlelcmkbcejjkaaDoorW.PrintWords Go.Proofs.YtlelcmkbcejjkaaDoorW.PrintLast Go.Proofs.YtlelcmkbcejjkaaDoorW.PrintMore
set_option linter.unusedVariables false
set_option linter.unusedSimpArgs false
abbrev V1 := {v : Value // v.oneCell' = true}
abbrev PV := V1 × V1
def kV : Kd V1 := Kd.scalar (fun x => x.1) (fun x => x.2)
def kP : Kd PV := Kd.pair kV kV
theorem kP_open {w : World} {x : PV} {cs : List Value} (h : kP.K w x cs) : cs = [x.1.1, x.2.1] := by
  obtain ⟨_, _, rfl, rfl, rfl⟩ := h; rfl
theorem kP_openM {w : World} {base : Nat} {ok : Nat → Prop} {x : PV} {cs : List Value} (h : kP.M w base ok x cs) : cs = [x.1.1, x.2.1] := by
  obtain ⟨_, _, rfl, rfl, rfl⟩ := h; rfl
theorem kP_mk (w : World) (x : PV) : kP.K w x [x.1.1, x.2.1] := ⟨[x.1.1], [x.2.1], rfl, rfl, rfl⟩
theorem kP_mkM (w : World) (base : Nat) (ok : Nat → Prop) (x : PV) : kP.M w base ok x [x.1.1, x.2.1] := ⟨[x.1.1], [x.2.1], rfl, rfl, rfl⟩
theorem kP_KM {w w1 : World} {base : Nat} {ok : Nat → Prop} {x : PV} {cs : List Value} (h : kP.K w x cs) : kP.M w1 base ok x cs := by
  obtain rfl := kP_open h; exact kP_mkM _ _ _ _
def e0 (x : PV) : Value := x.1.1
def e1 (x : PV) : Value := x.2.1
theorem infoSe : (Tryd.prog.info? 59).map (fun i => (i.zero, i.size, i.bytes)) = some (some (.agg #[.slice none 0 0, .slice none 0 0]), 2, 48) := by kernel_rfl
theorem pv_two {w : World} {B : Nat} {ok : Nat → Prop} {v : Value} {l : List PV} (h : Kd.R kP 59 w B ok v l) :
    (v = .slice none 0 0 ∧ l = []) ∨ ∃ g cap, v = .slice (some ⟨g, 0, none⟩) l.length cap ∧ B ≤ g ∧ TwoBlk 59 e0 e1 w g cap l := by
  obtain ⟨_, inner, ho, hl, hr⟩ := h
  refine own_two ho l rfl fun j hj => ?_
  have h3 := kP_openM (hr j _ (List.getElem?_eq_getElem hj))
  have hlen : (j * 2) + 2 ≤ inner.length := by
    have : inner.length = l.length * 2 := hl
    omega
  have h4 : (inner.drop (j * 2)).take 2 = [e0 l[j], e1 l[j]] := h3
  constructor
  · have := congrArg (fun z => z[0]?) h4
    simpa [List.getElem?_take, List.getElem?_drop] using this
  · have := congrArg (fun z => z[1]?) h4
    simpa [List.getElem?_take, List.getElem?_drop] using this
theorem pv_R {w : World} {B g cap : Nat} {l : List PV} (h : TwoBlk 59 e0 e1 w g cap l) (hB : B ≤ g) :
    Kd.R kP 59 w B (fun _ => True) (.slice (some ⟨g, 0, none⟩) l.length cap) l := by
  refine ⟨fun _ _ => trivial, _, two_own h hB, ?_⟩
  have gen : ∀ (ok : Nat → Prop) (l : List PV), Reps (kP.M w B ok) 2 l (l.flatMap fun x => [e0 x, e1 x]) := by
    intro ok l
    induction l with
    | nil => exact Reps.none _ _
    | cons x r ih =>
      have h1 := Reps.snoc (Reps.none (kP.M w B ok) 2) (p := x) (c := [e0 x, e1 x]) (kP_mkM w B ok x) rfl
      have h2 := Kd.reps_append h1 ih
      simpa [List.flatMap_cons] using h2
  exact gen _ l
/-- A row of series that is read: as a row of cells. -/
theorem C_split {w : World} {A : Option Addr} {n : Nat} {l : List Se} (h : Kd.C k59 w A n l) : ∃ ps : List PV, ps.length = l.length ∧ Kd.C kP w A n ps ∧ ∀ j (h1 : j < l.length) (h2 : j < ps.length), k59.K w l[j] [ps[j].1.1, ps[j].2.1] := by
  obtain ⟨hl, hm, hc⟩ := h
  have key : ∀ j : Fin l.length, ∃ p : PV, k59.K w l[j] [p.1.1, p.2.1] ∧ ∀ ad, A = some ad → w.cell? (ad.add (j.1 * 2)) = some p.1.1 ∧ w.cell? (ad.add (j.1 * 2 + 1)) = some p.2.1 := by
    intro j
    obtain ⟨ad, rfl, hj⟩ := hc (by have := j.2; omega)
    obtain ⟨c, hcl, hK, hcell⟩ := hj j.1 l[j] (List.getElem?_eq_getElem j.2)
    obtain ⟨A0, c0, A1, c1, rfl, l0, g0, l1, g1⟩ := k59_open hK
    refine ⟨(⟨_, rfl⟩, ⟨_, rfl⟩), hK, fun ad2 he => ?_⟩
    obtain rfl := Option.some.inj he
    exact ⟨hcell 0 _ rfl, hcell 1 _ rfl⟩
  refine ⟨List.ofFn fun j => (key j).choose, by simp, ⟨by simpa using hl, hm, fun hn => ?_⟩, fun j h1 h2 => ?_⟩
  · obtain ⟨ad, rfl, hj⟩ := hc hn
    refine ⟨ad, rfl, fun j p hp => ?_⟩
    have hjl : j < l.length := by
      have := (List.getElem?_eq_some_iff.1 hp).1
      simpa using this
    have hpe : p = (key ⟨j, hjl⟩).choose := by
      have := (List.getElem?_eq_some_iff.1 hp).2
      rw [List.getElem_ofFn] at this
      exact this.symm
    have hs := (key ⟨j, hjl⟩).choose_spec.2 ad rfl
    rw [← hpe] at hs
    refine ⟨[p.1.1, p.2.1], rfl, kP_mk w p, fun i u hu => ?_⟩
    match i, hu with
    | 0, hu => obtain rfl := Option.some.inj hu; exact hs.1
    | 1, hu => obtain rfl := Option.some.inj hu; exact hs.2
  · rw [List.getElem_ofFn]
    exact (key ⟨j, h1⟩).choose_spec.1
theorem C_join {w : World} {A : Option Addr} {n : Nat} {l : List Se} {ps : List PV} (h : Kd.C kP w A n ps) (hl : l.length = ps.length) (hK : ∀ j (h1 : j < l.length) (h2 : j < ps.length), k59.K w l[j] [ps[j].1.1, ps[j].2.1]) : Kd.C k59 w A n l := by
  obtain ⟨h1, h2, h3⟩ := h
  refine ⟨hl.trans h1, h2, fun hn => ?_⟩
  obtain ⟨ad, rfl, hj⟩ := h3 hn
  refine ⟨ad, rfl, fun j p hp => ?_⟩
  obtain ⟨hjl, rfl⟩ := List.getElem?_eq_some_iff.1 hp
  obtain ⟨c, hcl, hKc, hcell⟩ := hj j _ (List.getElem?_eq_getElem (by omega : j < ps.length))
  obtain rfl := kP_open hKc
  exact ⟨_, rfl, hK j hjl (by omega), hcell⟩
set_option maxHeartbeats 1000000 in
theorem se_clone (A : Option Addr) (c : Nat) (l : List PV) (w : World) (hC : Kd.C kP w A l.length l) (hb : l.length * 48 ≤ 140737488355328) :
    Calls Tryd.prog 43 #[.slice A l.length c] w fun e w' => ∃ v, e = .returned v ∧ Kd.R kP 59 w' w.heap.size (fun _ => True) v l ∧ RowKit.Below w.heap.size w w' := by
  cases A with
  | none =>
    have hl : l = [] := by
      cases l with
      | nil => rfl
      | cons x r => obtain ⟨ad, e, _⟩ := hC.2.2 (by simp); cases e
    subst hl
    have heq := fun w => Lib.run_eql_slice_nil (P := Tryd.prog) w 36 59 none 0 c 0 0 Tryd.underlying36
    go_enter Tryd.func43, Tryd.ntmps43
    go_wp2
    go_ret
    exact ⟨_, rfl, Kd.R_nil _ _ _ _ _, RowKit.Below.refl _ _⟩
  | some ad =>
    have HC : Aside0 (Kd.C kP (w.alloc (.cells #[] 59)) (some ad) l.length l) := ⟨Kd.C_below hC (below_alloc (RowKit.Below.refl _ _) _)⟩
    have HO : Aside0 (Kd.R kP 59 (w.alloc (.cells #[] 59)) w.heap.size (fun _ => True) (.slice (some ⟨w.heap.size, 0, none⟩) 0 0) []) :=
      ⟨fun _ _ => trivial, OwnRow.lit w w.heap.size (Reps.none _ _) (Nat.le_refl _) (by simp)⟩
    have HB : Aside0 (RowKit.Below w.heap.size w (w.alloc (.cells #[] 59))) := ⟨below_alloc (RowKit.Below.refl _ _) _⟩
    have HL : Aside0 ((([] : List PV).length + l.length) * 48 ≤ 140737488355328) := ⟨by simpa using hb⟩
    clear hC hb
    have heq := fun w => Lib.run_eql_slice_nil (P := Tryd.prog) w 36 59 (some ad) l.length c 0 0 Tryd.underlying36
    go_enter Tryd.func43, Tryd.ntmps43
    go_wp2_with (at_builtin; refine Kd.R_append_rows kP (w0 := w) w.heap.size rfl _ _ 36 59 _ 48 rfl Tryd.underlying36 infoSe rfl (by decide) (by decide) _ [] l (some ad) l.length c (fun _ => True) (fun _ => False) rfl rfl HO.out HC.out (fun _ _ h => kP_KM h) (fun _ h => h.elim) (fun _ _ => trivial) HB.out HB.out.size HL.out ?_; intro v1 w1 hR1 hB1 hg1 hat1; have HR1 := Aside0.mk hR1; have HB1 := Aside0.mk hB1; clear hR1 hB1 hg1 hat1)
    go_ret
    exact ⟨_, rfl, HR1.out, HB1.out⟩
end Go.Proofs.YtlelcmkbcejjkaaDoor.L
namespace Go.Proofs.YtlelcmkbcejjkaaDoor.L
open Go.Proofs Go.Proofs.YtlelcmkbcejjkaaDoor.Two Go.Proofs.YtlelcmkbcejjkaaDoor.Lab Go.Proofs.YtlelcmkbcejjkaaDoor.Sto
open Go.RowKit Go.Proofs.YtlelcmkbcejjkaaDoorW.PrintWords Go.Proofs.YtlelcmkbcejjkaaDoorW.PrintLast Go.Proofs.YtlelcmkbcejjkaaDoorW.PrintMore
set_option linter.unusedVariables false
set_option linter.unusedSimpArgs false
/-- The cells of a row. -/
def fl (l : List PV) : List Value := l.flatMap fun x => [e0 x, e1 x]
theorem fl_len (l : List PV) : (fl l).length = l.length * 2 := by
  induction l with
  | nil => rfl
  | cons x r ih => simp only [fl, List.flatMap_cons, List.length_append, List.length_cons, List.length_nil] at *; omega
theorem fl_app (a b : List PV) : fl (a ++ b) = fl a ++ fl b := by simp [fl, List.flatMap_append]
theorem fl_one (l : List PV) : ∀ v ∈ fl l, v.oneCell' = true := by
  intro v hv
  simp only [fl, List.mem_flatMap, List.mem_cons, List.mem_nil_iff, or_false] at hv
  obtain ⟨x, _, rfl | rfl⟩ := hv
  · exact x.1.2
  · exact x.2.2
theorem fl_get (l : List PV) : ∀ (j : Nat) (hj : j < l.length), (fl l)[j * 2]? = some (e0 l[j]) ∧ (fl l)[j * 2 + 1]? = some (e1 l[j]) := by
  induction l with
  | nil => intro j hj; simp at hj
  | cons x r ih =>
    intro j hj
    cases j with
    | zero => simp [fl, List.flatMap_cons]
    | succ j =>
      have := ih j (by simpa using hj)
      rw [show (j + 1) * 2 = j * 2 + 1 + 1 by omega]
      simpa [fl, List.flatMap_cons] using this
theorem two_fl {w : World} {g cap : Nat} {l : List PV} (h : TwoBlk 59 e0 e1 w g cap l) (k : Nat) (u : Value) (hk : (fl l)[k]? = some u) : w.cell? ⟨g, k, none⟩ = some u := by
  have hlt : k < (fl l).length := (List.getElem?_eq_some_iff.1 hk).1
  rw [fl_len] at hlt
  rcases Nat.mod_two_eq_zero_or_one k with e | e
  · obtain ⟨j, rfl⟩ : ∃ j, k = j * 2 := ⟨k / 2, by omega⟩
    have := fl_get l j (by omega)
    rw [this.1] at hk
    rw [(h.cell j (by omega)).1]; exact hk
  · obtain ⟨j, rfl⟩ : ∃ j, k = j * 2 + 1 := ⟨k / 2, by omega⟩
    have := fl_get l j (by omega)
    rw [this.2] at hk
    rw [(h.cell j (by omega)).2]; exact hk
theorem fl_drop (l : List PV) (i : Nat) : fl (l.drop i) = (fl l).drop (i * 2) := by
  have e := congrArg fl (List.take_append_drop i l)
  rw [fl_app] at e
  rcases Nat.lt_or_ge l.length i with h | h
  · rw [List.drop_eq_nil_of_le (by omega), List.drop_eq_nil_of_le (by rw [fl_len]; omega)]; rfl
  · have h2 : (fl (l.take i)).length = i * 2 := by rw [fl_len, List.length_take]; omega
    rw [← e, ← h2, List.drop_left]
/-- A block whose cells are those of a row. -/
theorem two_of {w : World} {g cap : Nat} {l : List PV} {cs : Array Value} (hg : w.heap[g]? = some (.cells cs 59 (0, 0))) (hs : cs.size = cap * 2) (hl : l.length ≤ cap) (hm : cap ≤ maxLen) (h : ∀ k, k < l.length * 2 → w.cell? ⟨g, k, none⟩ = (fl l)[k]?) : TwoBlk 59 e0 e1 w g cap l := by
  refine ⟨cs, hg, hs, hl, hm, fun j hj => ?_⟩
  have h1 := h (j * 2) (by omega)
  have h2 := h (j * 2 + 1) (by omega)
  rw [blk_cell hg] at h1 h2
  rw [h1, h2]
  exact fl_get l j hj
/-- copy at elements of two cells. -/
theorem run_copy2 {P : Program} (w : World) (dT sT ty elem : TypeId) (b o dLen dCap : Nat) (a : Addr) (sLen sCap : Nat) (cs : List Value)
    (hu : P.underlying dT = some (.slice elem)) (hs : (P.info? elem).map (·.size) = some 2) (hn : cs.length = Nat.min sLen dLen * 2)
    (hsrc : ∀ j v, cs[j]? = some v → w.cell? (a.add j) = some v) (hc : ∀ j, j < cs.length → (w.cell? ⟨b, o + j, none⟩).isSome = true) (hf : ∀ j, j < cs.length → w.frozen? ⟨b, o + j, none⟩ = false) (h1 : ∀ v ∈ cs, v.oneCell' = true) :
    (Builtin.copy_ #[dT, sT] ty #[.slice (some ⟨b, o, none⟩) dLen dCap, .slice (some a) sLen sCap]).run P w = .ok (goInt (Nat.min sLen dLen)) (w.setCells b o cs) := by
  have hl := run_loadCells_list (P := P) w a cs hsrc
  have hst := run_storeCells_cells (P := P) b o cs 0 w (by simpa using hc) (by simpa using hf) h1
  cases hq : P.info? elem with
  | none => simp [hq] at hs
  | some i =>
    have hi : i.size = 2 := by simpa [hq] using hs
    rw [hn] at hl
    simp [Builtin.copy_, run_underlying hu, Builtin.lenOf, Builtin.firstCells, sizeOf, typeInfo, hq, hi, hl, hst]
theorem szSe : (Tryd.prog.info? 59).map (·.size) = some 2 := by kernel_rfl
/-- Behind both copies: the row with one more. -/
theorem two_ins {w W : World} {g cap i : Nat} {l : List PV} {e : PV} {cs : Array Value} (hW : ∀ x, W.cell? x = ((w.setCells g ((i + 1) * 2) (fl (l.drop i))).setCells g (i * 2) [e0 e, e1 e]).cell? x)
    (hg : W.heap[g]? = some (.cells cs 59 (0, 0))) (hs : cs.size = cap * 2) (hm : cap ≤ maxLen) (hi : i ≤ l.length) (hcap : l.length + 1 ≤ cap)
    (hold : ∀ k, k < i * 2 → w.cell? ⟨g, k, none⟩ = (fl l)[k]?) (hsp : ∀ k, k < cap * 2 → (w.cell? ⟨g, k, none⟩).isSome = true) :
    TwoBlk 59 e0 e1 W g cap (l.take i ++ e :: l.drop i) := by
  have hdl : (fl (l.drop i)).length = (l.length - i) * 2 := by rw [fl_len, List.length_drop]
  have hlen : (l.take i ++ e :: l.drop i).length = l.length + 1 := by simp; omega
  have htl : (fl (l.take i)).length = i * 2 := by rw [fl_len, List.length_take]; omega
  have hfl : fl (l.take i ++ e :: l.drop i) = fl (l.take i) ++ ([e0 e, e1 e] ++ fl (l.drop i)) := by
    rw [fl_app]; rfl
  refine two_of hg hs (by omega) hm fun k hk => ?_
  rw [hlen] at hk
  rw [hW, hfl]
  have hs1 : ∀ j, j < (fl (l.drop i)).length → (w.cell? ⟨g, (i + 1) * 2 + j, none⟩).isSome = true := fun j hj => hsp _ (by omega)
  have hs2 : ∀ j, j < [e0 e, e1 e].length → ((w.setCells g ((i + 1) * 2) (fl (l.drop i))).cell? ⟨g, i * 2 + j, none⟩).isSome = true := fun j hj => isSome_setCells g _ _ _ hs1 _ (hsp _ (by simp at hj; omega))
  rcases Nat.lt_or_ge k (i * 2) with h1 | h1
  · rw [World.cell?_setCells_out g _ _ _ _ (fun _ _ => Or.inl h1), World.cell?_setCells_out g _ _ _ _ (fun _ _ => Or.inl (by show k < (i + 1) * 2; omega)), hold k h1, List.getElem?_append_left (by omega)]
    have e := congrArg fl (List.take_append_drop i l)
    rw [fl_app] at e
    rw [← e, List.getElem?_append_left (by omega)]
  · rcases Nat.lt_or_ge k (i * 2 + 2) with h2 | h2
    · have h3 := World.cell?_setCells_in g [e0 e, e1 e] (i * 2) _ hs2 (k - i * 2) (by simp; omega)
      rw [show i * 2 + (k - i * 2) = k by omega] at h3
      rw [h3, List.getElem?_append_right (by omega), htl, List.getElem?_append_left (by simp; omega), List.getElem?_eq_getElem]
    · rw [World.cell?_setCells_out g _ _ _ _ (fun _ _ => Or.inr (by show i * 2 + 2 ≤ k; omega))]
      have h3 := World.cell?_setCells_in g (fl (l.drop i)) ((i + 1) * 2) w hs1 (k - (i + 1) * 2) (by omega)
      rw [show (i + 1) * 2 + (k - (i + 1) * 2) = k by omega] at h3
      rw [h3, List.getElem?_append_right (by omega), htl, List.getElem?_append_right (by simp; omega), List.getElem?_eq_getElem (by simp; omega)]
      congr 1
      exact getElem_congr_idx (by simp; omega)
/-- Of what was there, nothing but a slice's own row has been written. -/
def OnlyRow (w w' : World) (v : Value) : Prop := ∀ k, k < w.heap.size → some k ≠ v.ownBlock → w'.heap[k]? = w.heap[k]?
theorem heap_setCells_ne {g k : Nat} (hne : k ≠ g) : ∀ {vs : List Value} {o : Nat} {w : World}, (w.setCells g o vs).heap[k]? = w.heap[k]?
  | [], _, _ => rfl
  | v :: r, o, w => by
    show ((w.setCell ⟨g, o, none⟩ v).setCells g (o + 1) r).heap[k]? = _
    rw [heap_setCells_ne hne]
    exact RowKit.Below.heap_setCell w ⟨g, o, none⟩ v k hne
set_option maxHeartbeats 4000000 in
theorem ins_end (A : Option Addr) (c : Nat) (l : List PV) (vb : Nat) (e : PV) (w : World) (B : Nat) (hB : B ≤ w.heap.size) (hR : Kd.R kP 59 w B (fun _ => True) (.slice A l.length c) l) (hlc : l.length ≤ c)
    (hC : Kd.C kP w (some ⟨vb, 0, none⟩) 1 [e]) (hb : (l.length + 1) * 48 ≤ 140737488355328) :
    Calls Tryd.prog 42 #[.slice A l.length c, .int .i64 l.length, .slice (some ⟨vb, 0, none⟩) 1 1] w fun en w' => ∃ v', en = .returned v' ∧ Kd.R kP 59 w' B (fun _ => True) v' (l ++ [e]) ∧ RowKit.Below B w w' ∧ OnlyRow w w' (.slice A l.length c) := by
  have HR := Aside0.mk hR
  have HC := Aside0.mk hC
  have HB := Aside0.mk hB
  have HL := Aside0.mk hb
  have hl63 : l.length ≤ 9223372036854775807 := by omega
  have hz : (l.length : Int) ≤ (c : Int) := by omega
  clear hR hC hB hb
  go_enter Tryd.func42, Tryd.ntmps42
  go_wp2_with (at_builtin; refine Kd.R_append_rows kP (w0 := w) B rfl _ _ 36 59 _ 48 rfl Tryd.underlying36 infoSe rfl (by decide) (by decide) _ l [e] (some ⟨vb, 0, none⟩) 1 1 (fun _ => True) (fun _ => False) rfl rfl HR.out HC.out (fun _ _ h => kP_KM h) (fun _ h => h.elim) (fun _ _ => trivial) (RowKit.Below.refl _ _) HB.out HL.out ?_; intro v1 w1 hR1 hB1 hg1 hat1; have HR1 := Aside0.mk hR1; have HB1 := Aside0.mk hB1; have HO1 : Aside0 (OnlyRow w w1 (.slice A l.length c)) := ⟨fun k hk hne => hg1.block k hk hne⟩; clear hR1 hB1 hg1 hat1)
  all_goals
    go_ret
    exact ⟨_, rfl, HR1.out, HB1.out, by first | exact HO1.out | (intro k hk hne; exact HO1.out k hk (by cases A <;> first | exact hne | (simp only [Value.ownBlock] at hne ⊢; exact hne) | simp [Value.ownBlock]))⟩
set_option maxRecDepth 100000 in
set_option maxHeartbeats 4000000 in
theorem ins_shift (g cap i : Nat) (l : List PV) (vb : Nat) (e : PV) (w : World) (B : Nat) (hB : B ≤ g) (hT : TwoBlk 59 e0 e1 w g cap l) (hi : i < l.length) (hroom : l.length + 1 ≤ cap) (hne : vb ≠ g)
    (hvb : w.heap[vb]? = some (.cells #[e0 e, e1 e] 59 (0, 0))) :
    Calls Tryd.prog 42 #[.slice (some ⟨g, 0, none⟩) l.length cap, .int .i64 i, .slice (some ⟨vb, 0, none⟩) 1 1] w fun en w' => ∃ v', en = .returned v' ∧ Kd.R kP 59 w' B (fun _ => True) v' (l.take i ++ e :: l.drop i) ∧ RowKit.Below B w w' ∧ OnlyRow w w' (.slice (some ⟨g, 0, none⟩) l.length cap) := by
  have hcap : cap ≤ 9223372036854775807 := by have := hT.len.2; unfold maxLen at this; omega
  have hsa : w.shape? vb = some (59, 2) := by
    unfold World.shape?; rw [hvb]; rfl
  obtain ⟨cs, hgb, hcs, hlc, hmx, hcell⟩ := hT
  have hsb : w.shape? g = some (59, cap * 2) := by
    unfold World.shape?; rw [hgb]; simp [hcs]
  have hov : ∀ lb cb, (callFunc 77 #[.slice (some ⟨vb, 0, none⟩) 1 1, .slice (some ⟨g, (i + 1) * 2, none⟩) lb cb]).run Tryd.prog w = .ok (.value (.bool false)) w := fun lb cb => by
    rw [run_callFunc_extern Tryd.func77 (by kernel_rfl) (by kernel_rfl) (by kernel_rfl) (e := Extern.SlicesOverlaps.overlaps #[36, 36] #[4]) (by kernel_rfl),
      Lib.run_overlaps_apart w 36 4 59 Tryd.underlying36 2 (fun _ => by kernel_rfl) ⟨vb, 0, none⟩ ⟨g, (i + 1) * 2, none⟩ 1 1 lb cb hne 59 59 2 (cap * 2) hsa hsb (by omega) (blk_frozen hvb _) (blk_frozen hvb _)]
    rfl
  have hl63 : l.length ≤ 9223372036854775807 := by omega
  have z1 : ((i : Int) == (l.length : Int)) = false := beq_eq_false_iff_ne.2 (by omega)
  have z1n : (i = l.length) = False := eq_false (by omega)
  have z2 : ((cap : Int) < (l.length : Int) + 1) = False := eq_false (by omega)
  have z3 : (i : Int) ≤ (l.length : Int) := by omega
  have z4 : (l.length : Int) + 1 ≤ (cap : Int) := by omega
  have z5 : (i : Int) + 1 ≤ (l.length : Int) + 1 := by omega
  have z6 : IntKind.i64.wrap ((l.length : Int) + 1) = (l.length : Int) + 1 := by rw [IntKind.wrap_i64]; omega
  have z7 : IntKind.i64.wrap ((i : Int) + 1) = (i : Int) + 1 := by rw [IntKind.wrap_i64]; omega
  have z8 : ((i : Int) + 1).toNat = i + 1 := by omega
  have z9 : ((l.length : Int) + 1).toNat = l.length + 1 := by omega
  have z10 : (0 : Int) ≤ (i : Int) + 1 := by omega
  have z12 : (i : Int) ≤ (l.length : Int) + 1 := by omega
  have z13 : ¬ (cap = i + 1) := by omega
  have z14 : ¬ (cap = i) := by omega
  have z15 : (0 : Int) ≤ (i : Int) := by omega
  have z11 : (l.length : Int) + 1 ≤ 9223372036854775807 := by omega
  have hdl : (fl (l.drop i)).length = (l.length - i) * 2 := by rw [fl_len, List.length_drop]
  have hT : TwoBlk 59 e0 e1 w g cap l := ⟨cs, hgb, hcs, hlc, hmx, hcell⟩
  have hsp : ∀ k, k < cap * 2 → (w.cell? ⟨g, k, none⟩).isSome = true := fun k hk => by rw [blk_cell hgb, Array.getElem?_eq_getElem (by omega)]; rfl
  have hfz : ∀ k, w.frozen? ⟨g, k, none⟩ = false := fun k => blk_frozen hgb k
  have hcp1 : ∀ ty dc sc, (Builtin.copy_ #[36, 36] ty #[.slice (some ⟨g, (i + 1) * 2, none⟩) (l.length - i) dc, .slice (some ⟨g, i * 2, none⟩) (l.length + 1 - i) sc]).run Tryd.prog w.drew = .ok (goInt (Nat.min (l.length + 1 - i) (l.length - i))) (w.drew.setCells g ((i + 1) * 2) (fl (l.drop i))) := fun ty dc sc =>
    run_copy2 w.drew _ _ ty 59 g ((i + 1) * 2) _ dc ⟨g, i * 2, none⟩ _ sc (fl (l.drop i)) Tryd.underlying36 szSe (by rw [hdl]; simp only [Nat.min_def]; split <;> omega)
      (fun j v hj => by
        rw [Addr.add_lit]
        exact two_fl hT (i * 2 + j) v (by rwa [fl_drop, List.getElem?_drop] at hj)) (fun j hj => hsp _ (by omega)) (fun j hj => hfz _) (fl_one _)
  obtain ⟨W1, hW1⟩ : ∃ W1, W1 = w.drew.setCells g ((i + 1) * 2) (fl (l.drop i)) := ⟨_, rfl⟩
  have hsp1 : ∀ k, k < cap * 2 → (W1.cell? ⟨g, k, none⟩).isSome = true := fun k hk => by
    rw [hW1]; exact isSome_setCells g (fl (l.drop i)) ((i + 1) * 2) w.drew (fun j hj => hsp _ (by omega)) _ (hsp k hk)
  have hcp2 : ∀ ty dc, (Builtin.copy_ #[36, 36] ty #[.slice (some ⟨g, i * 2, none⟩) (l.length + 1 - i) dc, .slice (some ⟨vb, 0, none⟩) 1 1]).run Tryd.prog W1 = .ok (goInt (Nat.min 1 (l.length + 1 - i))) (W1.setCells g (i * 2) [e0 e, e1 e]) := fun ty dc =>
    run_copy2 W1 _ _ ty 59 g (i * 2) _ dc ⟨vb, 0, none⟩ 1 1 [e0 e, e1 e] Tryd.underlying36 szSe (by simp only [Nat.min_def, List.length_cons, List.length_nil]; split <;> omega)
      (fun j v hj => by
        rw [Addr.add_lit, hW1, World.cell?_setCells_out g _ _ _ _ (fun h _ => absurd h hne)]
        show w.cell? _ = _
        rw [Nat.zero_add, blk_cell hvb]
        simpa using hj) (fun j hj => hsp1 _ (by simp at hj; omega)) (fun j hj => by rw [hW1, World.frozen?_setCells]; exact hfz _) (fun v hv => by
          simp only [List.mem_cons, List.mem_nil_iff, or_false] at hv
          rcases hv with rfl | rfl
          · exact e.1.2
          · exact e.2.2)
  rw [← hW1] at hcp1
  have HF : Aside0 (Kd.R kP 59 (W1.setCells g (i * 2) [e0 e, e1 e]) B (fun _ => True) (.slice (some ⟨g, 0, none⟩) (l.length + 1) cap) (l.take i ++ e :: l.drop i) ∧ RowKit.Below B w (W1.setCells g (i * 2) [e0 e, e1 e]) ∧ OnlyRow w (W1.setCells g (i * 2) [e0 e, e1 e]) (.slice (some ⟨g, 0, none⟩) l.length cap)) := ⟨by
    obtain ⟨cs1, h1, h1s, _⟩ := heap_setCells g (fl (l.drop i)) ((i + 1) * 2) w.drew cs 59 hgb
    rw [← hW1] at h1
    obtain ⟨cs2, h2, h2s, _⟩ := heap_setCells g [e0 e, e1 e] (i * 2) W1 cs1 59 h1
    have h3 := two_ins (w := w) (W := W1.setCells g (i * 2) [e0 e, e1 e]) (e := e) (fun x => by rw [hW1, ← drew_setCells, ← drew_setCells]; rfl) h2 (by omega) hmx (by omega) hroom (fun k hk => by
      have hk2 : k < (fl l).length := by rw [fl_len]; omega
      rw [List.getElem?_eq_getElem hk2]
      exact two_fl hT k _ (List.getElem?_eq_getElem hk2)) hsp
    have h4 := pv_R h3 hB
    rw [show (l.take i ++ e :: l.drop i).length = l.length + 1 by simp; omega] at h4
    refine ⟨h4, ?_, ?_⟩
    · rw [hW1]
      exact Two.below_setCells hB _ _ (Two.below_setCells hB _ _ (below_drew1 (RowKit.Below.refl _ _)))
    · intro k hk hne2
      have hkg : k ≠ g := fun e => hne2 (by rw [e]; rfl)
      rw [hW1, heap_setCells_ne hkg, heap_setCells_ne hkg]; rfl⟩
  clear hT hsp hfz hsp1 hgb hcell hsa hsb hvb hW1
  go_enter Tryd.func42, Tryd.ntmps42
  go_wp2_with (simp only [hov])
  go_region_held3 (fun _ => True) (trivial) (fail)
  all_goals go_wp2
  go_ret
  exact ⟨_, rfl, HF.out.1, HF.out.2.1, HF.out.2.2⟩
theorem setCells_swap (g a b : Nat) (us vs : List Value) (w : World) (hd : a + us.length ≤ b) (h1 : ∀ j, j < us.length → (w.cell? ⟨g, a + j, none⟩).isSome = true) (h2 : ∀ j, j < vs.length → (w.cell? ⟨g, b + j, none⟩).isSome = true) (x : Addr) :
    ((w.setCells g a us).setCells g b vs).cell? x = ((w.setCells g b vs).setCells g a us).cell? x := by
  have h1' : ∀ j, j < us.length → ((w.setCells g b vs).cell? ⟨g, a + j, none⟩).isSome = true := fun j hj => isSome_setCells g vs b w h2 _ (h1 j hj)
  have h2' : ∀ j, j < vs.length → ((w.setCells g a us).cell? ⟨g, b + j, none⟩).isSome = true := fun j hj => isSome_setCells g us a w h1 _ (h2 j hj)
  by_cases hx : x.block = g ∧ x.spot = none
  · obtain ⟨blk, k, sp⟩ := x
    obtain ⟨rfl, rfl⟩ := hx
    by_cases c1 : a ≤ k ∧ k < a + us.length
    · have e := World.cell?_setCells_in blk us a w h1 (k - a) (by omega)
      have e' := World.cell?_setCells_in blk us a _ h1' (k - a) (by omega)
      rw [show a + (k - a) = k by omega] at e e'
      rw [World.cell?_setCells_out blk vs b _ _ (fun _ _ => Or.inl (by show k < b; omega)), e, e']
    · rw [World.cell?_setCells_out blk us a _ _ (fun _ _ => by show k < a ∨ a + us.length ≤ k; omega)]
      by_cases c2 : b ≤ k ∧ k < b + vs.length
      · have e := World.cell?_setCells_in blk vs b w h2 (k - b) (by omega)
        have e' := World.cell?_setCells_in blk vs b _ h2' (k - b) (by omega)
        rw [show b + (k - b) = k by omega] at e e'
        rw [e, e']
      · rw [World.cell?_setCells_out blk vs b _ _ (fun _ _ => by show k < b ∨ b + vs.length ≤ k; omega), World.cell?_setCells_out blk us a _ _ (fun _ _ => by show k < a ∨ a + us.length ≤ k; omega), World.cell?_setCells_out blk vs b _ _ (fun _ _ => by show k < b ∨ b + vs.length ≤ k; omega)]
  · rw [World.cell?_setCells_out g vs b _ _ (fun h h' => absurd ⟨h, h'⟩ hx), World.cell?_setCells_out g us a _ _ (fun h h' => absurd ⟨h, h'⟩ hx), World.cell?_setCells_out g us a _ _ (fun h h' => absurd ⟨h, h'⟩ hx), World.cell?_setCells_out g vs b _ _ (fun h h' => absurd ⟨h, h'⟩ hx)]
set_option maxRecDepth 100000 in
set_option maxHeartbeats 4000000 in
theorem ins_grow (g cap i : Nat) (l : List PV) (vb : Nat) (e : PV) (w : World) (B : Nat) (hB : B ≤ g) (hT : TwoBlk 59 e0 e1 w g cap l) (hi : i < l.length) (hroom : cap = l.length) (hne : vb ≠ g)
    (hvb : w.heap[vb]? = some (.cells #[e0 e, e1 e] 59 (0, 0))) (hbig : (l.length + 1) * 48 ≤ 140737488355328) :
    Calls Tryd.prog 42 #[.slice (some ⟨g, 0, none⟩) l.length cap, .int .i64 i, .slice (some ⟨vb, 0, none⟩) 1 1] w fun en w' => ∃ v', en = .returned v' ∧ Kd.R kP 59 w' B (fun _ => True) v' (l.take i ++ e :: l.drop i) ∧ RowKit.Below B w w' ∧ OnlyRow w w' (.slice (some ⟨g, 0, none⟩) l.length cap) := by
  subst hroom
  have hgl := hT.lt
  have hvl := blk_lt hvb
  obtain ⟨i0, hi0, hz0, hzs, hzb⟩ := info_parts infoSe
  have hN := fun k u (hk : (fl l)[k]? = some u) => two_fl hT k u hk
  have htl : (fl (l.take i)).length = i * 2 := by rw [fl_len, List.length_take]; omega
  have hdl : (fl (l.drop i)).length = (l.length - i) * 2 := by rw [fl_len, List.length_drop]
  have htk : fl (l.take i) = (fl l).take (i * 2) := by
    have e := congrArg fl (List.take_append_drop i l)
    rw [fl_app] at e
    rw [← e, ← htl, List.take_left]
  have hold : (Builtin.firstCells i0.size i (.slice (some ⟨g, 0, none⟩) i l.length)).run Tryd.prog w.drew = .ok (fl (l.take i)).toArray w.drew := by
    rw [hzs]
    exact run_firstCells_some w.drew 2 i ⟨g, 0, none⟩ i l.length (fl (l.take i)) htl (fun j v hj => by
      rw [Addr.add_lit, Nat.zero_add]
      rw [htk, List.getElem?_take] at hj
      split at hj
      · exact hN j v hj
      · cases hj)
  obtain ⟨G, hG⟩ : ∃ G, G = grownCap w (l.length + 1) l.length 59 := ⟨_, rfl⟩
  obtain ⟨ROW, hROW⟩ : ∃ ROW : Array Value, ROW = (fl (l.take i)).toArray ++ Builtin.zeroCells (Value.agg #[.slice none 0 0, .slice none 0 0]).cells (l.length + 1 - i) ++ Builtin.zeroCells (Value.agg #[.slice none 0 0, .slice none 0 0]).cells (G - (l.length + 1)) := ⟨_, rfl⟩
  have hik : i + (l.length + 1 - i) = l.length + 1 := by omega
  have hrz : ∀ ty, (Builtin.append_ #[36, 3] ty #[.slice (some ⟨g, 0, none⟩) i l.length, .int .i64 ((l.length : Int) + 1 - (i : Int))]).run Tryd.prog w = .ok (.slice (some ⟨w.heap.size, 0, none⟩) (l.length + 1) G) (w.drew.alloc (.cells ROW 59)) := fun ty => by
    have h := Lib.run_append_grow_zeros w 36 3 ty 59 i0 _ .i64 .i64 Tryd.underlying36 Tryd.underlying3 hi0 hz0 (some ⟨g, 0, none⟩) i l.length (fl (l.take i)) hold (l.length + 1 - i) (by omega) (by omega) (by omega) (by omega) (by rw [hzb]; omega) (by rw [hzb, hik]; exact growslice_fits (by omega) hbig)
    rw [hik] at h
    rw [show (l.length : Int) + 1 - (i : Int) = ((l.length + 1 - i : Nat) : Int) by omega, hROW, hG]
    exact h
  have hGn : l.length + 1 ≤ G := by rw [hG]; exact grownCap_ge w _ _ _
  have hG63 : G ≤ maxLen := by
    rw [hG]; exact grownCap_le_maxLen w (l.length + 1) l.length 59 (by unfold maxLen; omega)
  have hRs : ROW.size = G * 2 := by
    rw [hROW]
    simp [Builtin.zeroCells, Value.cells, htl]
    omega
  obtain ⟨N, hNN⟩ : ∃ N, N = w.heap.size := ⟨_, rfl⟩
  obtain ⟨W1, hW1⟩ : ∃ W1, W1 = w.drew.alloc (.cells ROW 59) := ⟨_, rfl⟩
  rw [← hW1, ← hNN] at hrz
  have hB1 : RowKit.Below N w W1 := by rw [hW1, hNN]; exact below_alloc (below_drew1 (RowKit.Below.refl _ _)) _
  have hgN : g < N := by omega
  have hvN : vb < N := by omega
  have hk1 : W1.heap[N]? = some (.cells ROW 59 (0, 0)) := by rw [hW1, hNN]; show (w.drew.heap.push (.cells ROW 59))[w.drew.heap.size]? = _; exact Array.getElem?_push_size
  have hsp : ∀ k, k < G * 2 → (W1.cell? ⟨N, k, none⟩).isSome = true := fun k hk => by rw [blk_cell hk1, Array.getElem?_eq_getElem (by omega)]; rfl
  have hN1 : ∀ k u, (fl l)[k]? = some u → W1.cell? ⟨g, k, none⟩ = some u := fun k u hk => pw_cell_below (by rw [← hNN]; exact hB1) (hN k u hk)
  have hcpA : ∀ ty dc, (Builtin.copy_ #[36, 36] ty #[.slice (some ⟨N, i * 2, none⟩) (l.length + 1 - i) dc, .slice (some ⟨vb, 0, none⟩) 1 1]).run Tryd.prog W1 = .ok (goInt (Nat.min 1 (l.length + 1 - i))) (W1.setCells N (i * 2) [e0 e, e1 e]) := fun ty dc =>
    run_copy2 W1 _ _ ty 59 N (i * 2) _ dc ⟨vb, 0, none⟩ 1 1 [e0 e, e1 e] Tryd.underlying36 szSe (by simp only [Nat.min_def, List.length_cons, List.length_nil]; split <;> omega)
      (fun j v hj => by
        rw [Addr.add_lit, Nat.zero_add]
        refine pw_cell_below (by rw [← hNN]; exact hB1) ?_
        rw [blk_cell hvb]
        simpa using hj) (fun j hj => hsp _ (by simp at hj; omega)) (fun j hj => blk_frozen hk1 _) (fun v hv => by
          simp only [List.mem_cons, List.mem_nil_iff, or_false] at hv
          rcases hv with rfl | rfl
          · exact e.1.2
          · exact e.2.2)
  have hs1 : ∀ j, j < [e0 e, e1 e].length → (W1.cell? ⟨N, i * 2 + j, none⟩).isSome = true := fun j hj => hsp _ (by simp at hj; omega)
  obtain ⟨W2, hW2⟩ : ∃ W2, W2 = W1.setCells N (i * 2) [e0 e, e1 e] := ⟨_, rfl⟩
  rw [← hW2] at hcpA
  have hsp2 : ∀ k, k < G * 2 → (W2.cell? ⟨N, k, none⟩).isSome = true := fun k hk => by rw [hW2]; exact isSome_setCells N [e0 e, e1 e] (i * 2) W1 hs1 _ (hsp k hk)
  have hcpB : ∀ ty dc sc, (Builtin.copy_ #[36, 36] ty #[.slice (some ⟨N, (i + 1) * 2, none⟩) (l.length - i) dc, .slice (some ⟨g, i * 2, none⟩) (l.length - i) sc]).run Tryd.prog W2.drew = .ok (goInt (Nat.min (l.length - i) (l.length - i))) (W2.drew.setCells N ((i + 1) * 2) (fl (l.drop i))) := fun ty dc sc =>
    run_copy2 W2.drew _ _ ty 59 N ((i + 1) * 2) _ dc ⟨g, i * 2, none⟩ _ sc (fl (l.drop i)) Tryd.underlying36 szSe (by rw [hdl]; simp)
      (fun j v hj => by
        rw [Addr.add_lit]
        show W2.cell? _ = _
        rw [hW2, World.cell?_setCells_out N _ _ _ _ (fun h _ => absurd (show g = N from h) (by omega))]
        exact hN1 (i * 2 + j) v (by rwa [fl_drop, List.getElem?_drop] at hj)) (fun j hj => hsp2 _ (by omega)) (fun j hj => by
          show W2.frozen? _ = _
          rw [hW2, World.frozen?_setCells]; exact blk_frozen hk1 _) (fl_one _)
  have HF : Aside0 (Kd.R kP 59 (W2.drew.setCells N ((i + 1) * 2) (fl (l.drop i))) B (fun _ => True) (.slice (some ⟨N, 0, none⟩) (l.length + 1) G) (l.take i ++ e :: l.drop i) ∧ RowKit.Below B w (W2.drew.setCells N ((i + 1) * 2) (fl (l.drop i))) ∧ OnlyRow w (W2.drew.setCells N ((i + 1) * 2) (fl (l.drop i))) (.slice (some ⟨g, 0, none⟩) l.length l.length)) := ⟨by
    obtain ⟨cs1, h1, h1s, _⟩ := heap_setCells N [e0 e, e1 e] (i * 2) W1 ROW 59 hk1
    rw [← hW2] at h1
    obtain ⟨cs2, h2, h2s, _⟩ := heap_setCells N (fl (l.drop i)) ((i + 1) * 2) W2.drew cs1 59 h1
    have h3 := two_ins (w := W1) (W := W2.drew.setCells N ((i + 1) * 2) (fl (l.drop i))) (e := e) (cap := G) (fun x => by
      rw [← drew_setCells]
      show (W2.setCells N ((i + 1) * 2) (fl (l.drop i))).cell? x = _
      rw [hW2]
      exact setCells_swap N (i * 2) ((i + 1) * 2) _ _ W1 (by simp; omega) hs1 (fun j hj => hsp _ (by omega)) x) h2 (by omega) hG63 (by omega) hGn (fun k hk => by
      have hk2 : k < (fl l).length := by rw [fl_len]; omega
      rw [blk_cell hk1, hROW, Array.getElem?_append_left (by simp [Builtin.zeroCells, Value.cells, htl]; omega), Array.getElem?_append_left (by simp [htl]; omega), htk]
      simp only [List.getElem?_toArray]
      rw [List.getElem?_take_of_lt hk]) hsp
    have h4 := pv_R h3 (B := B) (by omega)
    rw [show (l.take i ++ e :: l.drop i).length = l.length + 1 by simp; omega] at h4
    have h5 : RowKit.Below N w (W2.drew.setCells N ((i + 1) * 2) (fl (l.drop i))) := by
      refine Two.below_setCells (Nat.le_refl _) _ _ (below_drew1 ?_)
      rw [hW2]
      exact Two.below_setCells (Nat.le_refl _) _ _ hB1
    exact ⟨h4, h5.mono (by omega), fun k hk _ => h5.block k (by omega)⟩⟩
  have hl63 : l.length ≤ 9223372036854775807 := by omega
  have hG9 : G ≤ 9223372036854775807 := by unfold maxLen at hG63; omega
  have z1 : ((i : Int) == (l.length : Int)) = false := beq_eq_false_iff_ne.2 (by omega)
  have z1n : (i = l.length) = False := eq_false (by omega)
  have z2 : ((l.length : Int) < (l.length : Int) + 1) = True := eq_true (by omega)
  have z3 : (i : Int) ≤ (l.length : Int) := by omega
  have z6 : IntKind.i64.wrap ((l.length : Int) + 1) = (l.length : Int) + 1 := by rw [IntKind.wrap_i64]; omega
  have z7 : IntKind.i64.wrap ((i : Int) + 1) = (i : Int) + 1 := by rw [IntKind.wrap_i64]; omega
  have z8 : ((i : Int) + 1).toNat = i + 1 := by omega
  have z16 : IntKind.i64.wrap ((l.length : Int) + 1 - (i : Int)) = (l.length : Int) + 1 - (i : Int) := by rw [IntKind.wrap_i64]; omega
  have z10 : (0 : Int) ≤ (i : Int) + 1 := by omega
  have z12 : (i : Int) ≤ (l.length : Int) + 1 := by omega
  have z17 : (i : Int) + 1 ≤ (l.length : Int) + 1 := by omega
  have z13 : ¬ (G = i + 1) := by omega
  have z14 : ¬ (G = i) := by omega
  have z18 : ¬ (l.length = i) := by omega
  have z15 : (0 : Int) ≤ (i : Int) := by omega
  have z19 : (l.length : Int) + 1 ≤ (G : Int) := by omega
  clear hW1 hW2 hNN hROW hG hN hN1 hsp hsp2 hs1 hk1 hB1 hold hvb hT hRs hik htk hi0 hz0
  go_enter Tryd.func42, Tryd.ntmps42
  go_wp2_with (at_builtin; refine Lib.wpList_append_run _ rfl _ _ _ _ rfl _ _ rfl rfl _ _ (hrz _) ?_)
  go_region_held3 (fun _ => True) (trivial) (fail)
  all_goals go_wp2
  go_ret
  exact ⟨_, rfl, HF.out.1, HF.out.2.1, HF.out.2.2⟩
theorem se_insert (v : Value) (l : List PV) (i : Nat) (hi : i ≤ l.length) (vb : Nat) (e : PV) (w : World) (B : Nat) (hB : B ≤ w.heap.size) (hR : Kd.R kP 59 w B (fun k => k ≠ vb) v l)
    (hvb : w.heap[vb]? = some (.cells #[e0 e, e1 e] 59 (0, 0))) (hbig : (l.length + 1) * 48 ≤ 140737488355328) :
    Calls Tryd.prog 42 #[v, .int .i64 i, .slice (some ⟨vb, 0, none⟩) 1 1] w fun en w' => ∃ v', en = .returned v' ∧ Kd.R kP 59 w' B (fun _ => True) v' (l.take i ++ e :: l.drop i) ∧ RowKit.Below B w w' ∧ OnlyRow w w' v := by
  have hne := hR.1
  have hR' := Kd.R_mono hR (ok' := fun _ => True) (fun _ _ => trivial)
  rcases Nat.lt_or_eq_of_le hi with h | rfl
  · rcases pv_two hR with ⟨_, rfl⟩ | ⟨g, cap, rfl, hg, hT⟩
    · simp at h
    · have hgv : vb ≠ g := fun e => hne g rfl e.symm
      have hc := hT.len.1
      rcases Nat.lt_or_ge l.length cap with h2 | h2
      · exact ins_shift g cap i l vb e w B hg hT h h2 hgv hvb
      · exact ins_grow g cap i l vb e w B hg hT h (by omega) hgv hvb hbig
  · obtain ⟨A, c, rfl, hlc, _⟩ := Kd.R_reads hR'
    rw [List.take_length, List.drop_length]
    refine ins_end A c l vb e w B hB hR' hlc ⟨rfl, by decide, fun _ => ⟨_, rfl, fun j p hj => ?_⟩⟩ hbig
    match j, hj with
    | 0, hj =>
      obtain rfl := Option.some.inj hj
      refine ⟨[e.1.1, e.2.1], rfl, kP_mk w e, fun i u hu => ?_⟩
      rw [Addr.add_lit]
      show w.cell? ⟨vb, 0 + (0 * 2 + i), none⟩ = some u
      rw [Nat.zero_mul, Nat.zero_add, Nat.zero_add, blk_cell hvb]
      match i, hu with
      | 0, hu => simpa [e0] using hu
      | 1, hu => simpa [e1] using hu
end Go.Proofs.YtlelcmkbcejjkaaDoor.L
namespace Go.Proofs.YtlelcmkbcejjkaaDoor.L
open Go.Proofs Go.Proofs.YtlelcmkbcejjkaaDoor.Two Go.Proofs.YtlelcmkbcejjkaaDoor.Lab Go.Proofs.YtlelcmkbcejjkaaDoor.Sto
open Go.RowKit Go.Proofs.YtlelcmkbcejjkaaDoorW.PrintWords Go.Proofs.YtlelcmkbcejjkaaDoorW.PrintLast Go.Proofs.YtlelcmkbcejjkaaDoorW.PrintMore
set_option linter.unusedVariables false
set_option linter.unusedSimpArgs false
attribute [local go_sem ↓] Go.wp_at_zero Go.wp_at_succ
theorem pt_rd (l : List Pt) (i : Nat) (h : i < l.length) : rd_T40 l (i : Int) = l[i] := by
  simp [rd_T40, List.getD_eq_getElem?_getD, List.getElem?_eq_getElem h]
/-- append as one step of a region that draws, where its run is known. -/
theorem step_app_run {P : Program} {ops : Array Oper} {o : Oper} {a : Act} {w : World} {K : Act → World → Prop} {Q : Exit → Act → World → Prop} {E : Prop}
    (hg : o.guard = none) (d x : Operand) (dT sT : TypeId) (hop : o.op = Op.call { callee := Callee.builtin Builtin.append, args := #[d, x], argTypes := #[dT, sT] })
    (v u : Value) (hd : a.eval d = v) (hx : a.eval x = u) {v' : Value} {w' : World} (hr : (Builtin.append_ #[dT, sT] o.type #[v, u]).run P w = .ok v' w') (hK : K (a.put o.dst v') w') :
    if Region.wanted o (yielded ops a.tmps) = true then Oper.wp P o a w K Q else E := by
  have hw : Region.wanted o (yielded ops a.tmps) = true := by simp [Region.wanted, hg]
  rw [if_pos hw]
  unfold Oper.wp
  simp only [execOp, hop, resolve, invoke, builtin, Sem.run_bind, Sem.run_pure, Result.andThen_ok, List.map_toArray, List.map_cons, List.map_nil, hd, hx, hr]
  exact hK
theorem two_set1 {w : World} {g cap : Nat} {ys : List PV} (h : TwoBlk 59 e0 e1 w g cap ys) (i : Nat) (hi : i < ys.length) (x : PV) (hx : e0 x = e0 ys[i]) : TwoBlk 59 e0 e1 (w.setCell ⟨g, i * 2 + 1, none⟩ (e1 x)) g cap (ys.set i x) := by
  obtain ⟨cs, hg, hs, hl, hm, hc⟩ := h
  refine ⟨_, blk_set hg _ _, by simp [hs], by simpa using hl, hm, fun j hj => ?_⟩
  rw [List.length_set] at hj
  obtain ⟨h0, h1⟩ := hc j hj
  by_cases e : i = j
  · subst e
    constructor
    · rw [Array.getElem?_setIfInBounds_ne (by omega)]
      simp only [List.getElem_set_self]
      rw [hx]; exact h0
    · rw [Array.getElem?_setIfInBounds_self, if_pos (by omega)]
      simp
  · rw [List.getElem_set_ne e]
    constructor
    · rw [Array.getElem?_setIfInBounds_ne (by omega)]; exact h0
    · rw [Array.getElem?_setIfInBounds_ne (by omega)]; exact h1
theorem timely_is (t : Int) : store_timely.f t = some (timeB t) := by
  unfold store_timely.f timeB
  by_cases h : t ≥ -1125899906842624
  · rw [if_pos h, decide_eq_true (show -1125899906842624 ≤ t from h), Bool.true_and]
  · rw [if_neg h, decide_eq_false (show ¬ -1125899906842624 ≤ t from h), Bool.false_and]
def appP (s : List Se) (t v : Int) (m : List Lb) : List Se × Option Int := match put m ⟨t, normV v⟩ s with | some o => (o, none) | none => ([], some 3)
def appT (s : List Se) (t v : Int) (m : List Lb) : List Se × Option Int := if timeB t = true then appP s t v m else ([], some 4)
def appR (s : List Se) (t v : Int) (m : List Lb) : Option Int → List Se × Option Int
  | some e => ([], some e)
  | none => if m = [] then ([], some 1) else appT s t v m
theorem app_ok {s : List Se} (h : StOk s) (l : List Lb) (t v : Int) : app s l t v = appR s t v (mkL mayB l).1 (mkL mayB l).2 := by
  unfold app
  rw [if_pos h]
  rcases mkL mayB l with ⟨m, r⟩
  cases r <;> rfl
theorem infoPt : (Tryd.prog.info? 40).map (fun i => (i.zero, i.size, i.bytes)) = some (some (.agg #[.int .i64 0, .int .u64 0]), 2, 16) := by kernel_rfl
/-- The cells of a row of points. -/
theorem pt_cells {w : World} {ad : Addr} {n : Nat} {l : List Pt} (h : Kd.C k40 w (some ad) n l) : ∃ olds : List Value, olds.length = l.length * 2 ∧ (∀ k u, olds[k]? = some u → w.cell? (ad.add k) = some u) ∧ ∀ j (hj : j < l.length), olds[j * 2]? = some (.int .i64 l[j].f0) ∧ olds[j * 2 + 1]? = some (.int .u64 l[j].f1) := by
  refine ⟨l.flatMap fun x => [.int .i64 x.f0, .int .u64 x.f1], ?_, ?_, ?_⟩
  · clear h
    induction l with
    | nil => rfl
    | cons x r ih => simp only [List.flatMap_cons, List.length_append, List.length_cons, List.length_nil, ih]; omega
  · have get : ∀ (l : List Pt) (j : Nat) (hj : j < l.length), (l.flatMap fun x => [Value.int .i64 x.f0, Value.int .u64 x.f1])[j * 2]? = some (.int .i64 l[j].f0) ∧ (l.flatMap fun x => [Value.int .i64 x.f0, Value.int .u64 x.f1])[j * 2 + 1]? = some (.int .u64 l[j].f1) := by
      intro l
      induction l with
      | nil => intro j hj; simp at hj
      | cons x r ih =>
        intro j hj
        cases j with
        | zero => simp [List.flatMap_cons]
        | succ j =>
          have := ih j (by simpa using hj)
          rw [show (j + 1) * 2 = j * 2 + 1 + 1 by omega]
          simpa [List.flatMap_cons] using this
    intro k u hk
    have hl : (l.flatMap fun x => [Value.int .i64 x.f0, Value.int .u64 x.f1]).length = l.length * 2 := by
      clear h hk get
      induction l with
      | nil => rfl
      | cons x r ih => simp only [List.flatMap_cons, List.length_append, List.length_cons, List.length_nil, ih]; omega
    have hlt := (List.getElem?_eq_some_iff.1 hk).1
    rw [hl] at hlt
    obtain ⟨h1, h2, h3⟩ := h
    obtain ⟨ad2, he, hc⟩ := h3 (by omega)
    obtain rfl := Option.some.inj he
    obtain ⟨c, hcl, hK, hcell⟩ := hc (k / 2) _ (List.getElem?_eq_getElem (by omega))
    obtain rfl := k40_open hK
    have hg := get l (k / 2) (by omega)
    rcases Nat.mod_two_eq_zero_or_one k with e | e
    · have hk2 : k = k / 2 * 2 := by omega
      have := hcell 0 _ rfl
      rw [hk2] at hk ⊢
      rw [hg.1] at hk
      rw [← hk]; exact this
    · have hk2 : k = k / 2 * 2 + 1 := by omega
      have := hcell 1 _ rfl
      rw [hk2] at hk ⊢
      rw [hg.2] at hk
      rw [← hk]; exact this
  · clear h
    induction l with
    | nil => intro j hj; simp at hj
    | cons x r ih =>
      intro j hj
      cases j with
      | zero => simp [List.flatMap_cons]
      | succ j =>
        have := ih j (by simpa using hj)
        rw [show (j + 1) * 2 = j * 2 + 1 + 1 by omega]
        simpa [List.flatMap_cons] using this
/-- What Append hands back: it can be read. -/
def AppPost (w : World) (r : List Se × Option Int) (en : Ending) (w' : World) : Prop :=
  ∃ A' c', en = .returned (.tuple #[.slice A' r.1.length c', errW r.2]) ∧ r.1.length ≤ c' ∧ Kd.C k59 w' A' r.1.length r.1 ∧ RowKit.Below w.heap.size w w'
theorem post_nil {w w' : World} {c : Int} (hb : RowKit.Below w.heap.size w w') : AppPost w ([], some c) (.returned (.tuple #[.slice none 0 0, errW (some c)])) w' :=
  ⟨none, 0, rfl, Nat.le_refl _, Kd.C_nil k59 w', hb⟩
theorem ins_get {α : Type} (l : List α) (k : Nat) (hk : k ≤ l.length) (x : α) (j : Nat) : (l.take k ++ x :: l.drop k)[j]? = if j < k then l[j]? else if j = k then some x else l[j - 1]? := by
  have hl : (l.take k).length = k := by rw [List.length_take]; omega
  split
  · rename_i h
    rw [List.getElem?_append_left (by omega), List.getElem?_take_of_lt h]
  · rename_i h
    rw [List.getElem?_append_right (by omega), hl]
    split
    · rename_i h2
      subst h2
      simp
    · rename_i h2
      rw [show j - k = (j - k - 1) + 1 by omega, List.getElem?_cons_succ, List.getElem?_drop]
      congr 1; omega
theorem C_pt (w : World) (b : Nat) (x : Pt) (h0 : w.cell? ⟨b, 0, none⟩ = some (.int .i64 x.f0)) (h1 : w.cell? ⟨b, 1, none⟩ = some (.int .u64 x.f1)) :
    Kd.C k40 w (some ⟨b, 0, none⟩) [x].length [x] := by
  refine ⟨rfl, by simp, fun _ => ⟨_, rfl, fun j p hj => ?_⟩⟩
  match j, hj with
  | 0, hj =>
    obtain rfl := Option.some.inj hj
    refine ⟨_, rfl, k40_mk w x, fun i u hu => ?_⟩
    match i, hu with
    | 0, hu => obtain rfl := Option.some.inj hu; exact h0
    | 1, hu => obtain rfl := Option.some.inj hu; exact h1
/-- Rows of other elements than series lie unturned. -/
def OtherRows (W w' : World) : Prop := ∀ (k : Nat) (cells : Array Value) (q : TypeId), q ≠ 59 → W.heap[k]? = some (.cells cells q (0, 0)) → w'.heap[k]? = W.heap[k]?
/-- The row with one series more. -/
theorem ins_se (w : World) (s : List Se) (ps : List PV) (hpl : ps.length = s.length) (hsz : s.length ≤ 1000) (hpk : ∀ j (h1 : j < s.length) (h2 : j < ps.length), k59.K w s[j] [ps[j].1.1, ps[j].2.1])
    (kk : Nat) (hkl : kk ≤ s.length) (m : List Lb) (A2 : Option Addr) (c2 : Nat) (hlc2 : m.length ≤ c2) (p : Pt) (W : World) (vb b3 : Nat) (v6 : Value) (hW : RowKit.Below w.heap.size w W)
    (hm : Kd.R k67 67 W w.heap.size (fun _ => True) (.slice A2 m.length c2) m) (h0 : W.heap[b3]? = some (.cells #[.int .i64 p.f0, .int .u64 p.f1] 40 (0, 0)))
    (hvb : W.heap[vb]? = some (.cells #[.slice A2 m.length c2, .slice (some ⟨b3, 0, none⟩) 1 1] 59 (0, 0))) (hR : Kd.R kP 59 W w.heap.size (fun k => k ≠ vb) v6 ps) :
    Calls Tryd.prog 42 #[v6, .int .i64 kk, .slice (some ⟨vb, 0, none⟩) 1 1] W fun en w' => ∃ A' c', en = .returned (.slice A' (s.take kk ++ ⟨m, [p]⟩ :: s.drop kk).length c') ∧ (s.take kk ++ ⟨m, [p]⟩ :: s.drop kk).length ≤ c' ∧
      Kd.C k59 w' A' (s.take kk ++ ⟨m, [p]⟩ :: s.drop kk).length (s.take kk ++ ⟨m, [p]⟩ :: s.drop kk) ∧ RowKit.Below w.heap.size w w' ∧ OtherRows W w' := by
  refine (se_insert v6 ps kk (by omega) vb (⟨.slice A2 m.length c2, rfl⟩, ⟨.slice (some ⟨b3, 0, none⟩) 1 1, rfl⟩) W w.heap.size hW.size hR hvb (by omega)).mono ?_
  rintro en w' ⟨v', rfl, hr, hb, ho⟩
  obtain ⟨A', c', rfl, hlc, hC⟩ := Kd.R_reads hr
  have hlen : (s.take kk ++ ⟨m, [p]⟩ :: s.drop kk).length = (ps.take kk ++ ((⟨.slice A2 m.length c2, rfl⟩, ⟨.slice (some ⟨b3, 0, none⟩) 1 1, rfl⟩) : PV) :: ps.drop kk).length := by simp; omega
  have hb2 : RowKit.Below w.heap.size w w' := hW.trans hb
  -- what m and the point lead to is not the row that was written
  have key : ∀ (k : Nat) (cells : Array Value) (q : TypeId), q ≠ 59 → W.heap[k]? = some (.cells cells q (0, 0)) → w'.heap[k]? = W.heap[k]? := by
    intro k cells q hq hk
    refine ho k (blk_lt hk) fun e => ?_
    obtain ⟨_, inner, hown, _⟩ := hR
    obtain ⟨cells2, hc2⟩ := own_typed hown k e.symm
    rw [hk] at hc2
    injection hc2 with hc2
    injection hc2 with _ h2
    exact hq h2
  have hm2 : Kd.C k67 w' A2 m.length m := by
    have h1 := Kd.R_step (w1 := w') (Kd.R_bound hm) (fun k hk _ => by
      obtain ⟨_, _, _, q, hq, cells, hc⟩ := hk
      refine key k cells q ?_ hc
      rintro rfl
      exact absurd hq (by decide))
    obtain ⟨A3, c3, he, _, h2⟩ := Kd.R_reads h1
    injection he with e1 e2 e3
    rw [e1]; exact h2
  have h02 : w'.heap[b3]? = some (.cells #[.int .i64 p.f0, .int .u64 p.f1] 40 (0, 0)) := by rw [key b3 _ _ (by decide) h0]; exact h0
  refine ⟨A', c', by rw [hlen], by omega, ?_, hb2, key⟩
  rw [hlen]
  refine C_join hC hlen fun j h1 h2 => ?_
  have g1 := ins_get s kk hkl ⟨m, [p]⟩ j
  have g2 := ins_get ps kk (by omega) ((⟨.slice A2 m.length c2, rfl⟩, ⟨.slice (some ⟨b3, 0, none⟩) 1 1, rfl⟩) : PV) j
  rw [List.getElem?_eq_getElem h1] at g1
  rw [List.getElem?_eq_getElem h2] at g2
  have hsl : (s.take kk ++ ⟨m, [p]⟩ :: s.drop kk).length = s.length + 1 := by simp; omega
  by_cases c1 : j < kk
  · rw [if_pos c1, List.getElem?_eq_getElem (by omega)] at g1 g2
    rw [Option.some.inj g1, Option.some.inj g2]
    exact k59.K_below hb2 (hpk j (by omega) (by omega))
  · rw [if_neg c1] at g1 g2
    by_cases c3 : j = kk
    · rw [if_pos c3] at g1 g2
      rw [Option.some.inj g1, Option.some.inj g2]
      exact k59_mk w' ⟨m, [p]⟩ hlc2 hm2 (Nat.le_refl _) (C_pt w' b3 p (by rw [blk_cell h02]; rfl) (by rw [blk_cell h02]; rfl))
    · rw [if_neg c3, List.getElem?_eq_getElem (by omega)] at g1 g2
      rw [Option.some.inj g1, Option.some.inj g2]
      exact k59.K_below hb2 (hpk (j - 1) (by omega) (by omega))
def SA (w W : World) (t v : Int) (u : Value) (m : List Lb) : Prop :=
  W.cell? ⟨w.heap.size, 0, none⟩ = some (.int .i64 t) ∧ W.cell? ⟨w.heap.size, 1, none⟩ = some (.int .u64 v) ∧ Aside0 (RowKit.Below w.heap.size w W ∧ Kd.R k67 67 W w.heap.size (fun _ => True) u m ∧ W.heap[w.heap.size]? = some (.cells #[.int .i64 t, .int .u64 v] 40 (0, 0)))
theorem keepS {w W : World} {t v : Int} {u : Value} {m : List Lb} (hb : RowKit.Below w.heap.size w W) (hm : Kd.R k67 67 W w.heap.size (fun _ => True) u m) (he : W.heap[w.heap.size]? = some (.cells #[.int .i64 t, .int .u64 v] 40 (0, 0))) :
    W.cell? ⟨w.heap.size, 0, none⟩ = some (.int .i64 t) ∧ W.cell? ⟨w.heap.size, 1, none⟩ = some (.int .u64 v) ∧ Aside0 (RowKit.Below w.heap.size w W ∧ Kd.R k67 67 W w.heap.size (fun _ => True) u m ∧ W.heap[w.heap.size]? = some (.cells #[.int .i64 t, .int .u64 v] 40 (0, 0))) :=
  ⟨(blk_cell he 0).trans rfl, (blk_cell he 1).trans rfl, ⟨hb, hm, he⟩⟩
theorem keepP {w W W1 : World} {t v : Int} {u : Value} {m : List Lb} (h : W.cell? ⟨w.heap.size, 0, none⟩ = some (.int .i64 t) ∧ W.cell? ⟨w.heap.size, 1, none⟩ = some (.int .u64 v) ∧ Aside0 (RowKit.Below w.heap.size w W ∧ Kd.R k67 67 W w.heap.size (fun _ => True) u m ∧ W.heap[w.heap.size]? = some (.cells #[.int .i64 t, .int .u64 v] 40 (0, 0)))) (hb : RowKit.Below W.heap.size W W1) :
    W1.cell? ⟨w.heap.size, 0, none⟩ = some (.int .i64 t) ∧ W1.cell? ⟨w.heap.size, 1, none⟩ = some (.int .u64 v) ∧ Aside0 (RowKit.Below w.heap.size w W1 ∧ Kd.R k67 67 W1 w.heap.size (fun _ => True) u m ∧ W1.heap[w.heap.size]? = some (.cells #[.int .i64 t, .int .u64 v] 40 (0, 0))) :=
  keepS (below_then h.2.2.out.1 h.2.2.out.1.size hb) (Kd.R_below h.2.2.out.2.1 hb) ((hb.block _ (blk_lt h.2.2.out.2.2)).trans h.2.2.out.2.2)
theorem keepI {w W W1 : World} {t v : Int} {u : Value} {m : List Lb} (h : W.cell? ⟨w.heap.size, 0, none⟩ = some (.int .i64 t) ∧ W.cell? ⟨w.heap.size, 1, none⟩ = some (.int .u64 v) ∧ Aside0 (RowKit.Below w.heap.size w W ∧ Kd.R k67 67 W w.heap.size (fun _ => True) u m ∧ W.heap[w.heap.size]? = some (.cells #[.int .i64 t, .int .u64 v] 40 (0, 0)))) (hb : RowKit.Below w.heap.size w W1) (ho : OtherRows W W1) :
    W1.cell? ⟨w.heap.size, 0, none⟩ = some (.int .i64 t) ∧ W1.cell? ⟨w.heap.size, 1, none⟩ = some (.int .u64 v) ∧ Aside0 (RowKit.Below w.heap.size w W1 ∧ Kd.R k67 67 W1 w.heap.size (fun _ => True) u m ∧ W1.heap[w.heap.size]? = some (.cells #[.int .i64 t, .int .u64 v] 40 (0, 0))) :=
  keepS hb (Kd.R_mono (Kd.R_step (w1 := W1) (Kd.R_bound h.2.2.out.2.1) (fun k hk _ => by
      obtain ⟨_, _, _, q, hq, cells, hc⟩ := hk
      refine ho k cells q ?_ hc
      rintro rfl
      exact absurd hq (by decide))) (fun _ _ => trivial)) ((ho _ _ _ (by decide) h.2.2.out.2.2).trans h.2.2.out.2.2)
theorem kB {w W : World} {t v : Int} {u : Value} {m : List Lb} (h : W.cell? ⟨w.heap.size, 0, none⟩ = some (.int .i64 t) ∧ W.cell? ⟨w.heap.size, 1, none⟩ = some (.int .u64 v) ∧ Aside0 (RowKit.Below w.heap.size w W ∧ Kd.R k67 67 W w.heap.size (fun _ => True) u m ∧ W.heap[w.heap.size]? = some (.cells #[.int .i64 t, .int .u64 v] 40 (0, 0)))) : RowKit.Below w.heap.size w W := h.2.2.out.1
theorem kR {w W : World} {t v : Int} {u : Value} {m : List Lb} (h : W.cell? ⟨w.heap.size, 0, none⟩ = some (.int .i64 t) ∧ W.cell? ⟨w.heap.size, 1, none⟩ = some (.int .u64 v) ∧ Aside0 (RowKit.Below w.heap.size w W ∧ Kd.R k67 67 W w.heap.size (fun _ => True) u m ∧ W.heap[w.heap.size]? = some (.cells #[.int .i64 t, .int .u64 v] 40 (0, 0)))) : Kd.R k67 67 W w.heap.size (fun _ => True) u m := h.2.2.out.2.1
theorem al_new (W : World) (o : Obj) : (W.alloc o).heap[W.heap.size]? = some o := Array.getElem?_push_size
theorem al_newE {W : World} {o : Obj} {k : Nat} (h : k = W.heap.size) : (W.alloc o).heap[k]? = some o := by rw [h]; exact al_new W o
theorem al_old {W : World} {o q : Obj} {k : Nat} (h : W.heap[k]? = some q) : (W.alloc o).heap[k]? = some q := (below_alloc (RowKit.Below.refl W.heap.size W) o).block k (blk_lt h) ▸ h
theorem al_drew {W : World} {q : Obj} {k : Nat} (h : W.heap[k]? = some q) : W.drew.heap[k]? = some q := h
theorem al_below {W W1 : World} {q : Obj} {k : Nat} (h : W.heap[k]? = some q) (hb : RowKit.Below W.heap.size W W1) : W1.heap[k]? = some q := (hb.block k (blk_lt h)).trans h
theorem R_six {w W0 w6 W : World} {v : Value} {ps : List PV} {vb : Nat} (h : Kd.R kP 59 w6 W0.heap.size (fun _ => True) v ps) (hb : RowKit.Below w6.heap.size w6 W) (hv : vb < W0.heap.size ∨ w6.heap.size ≤ vb) (hl : w.heap.size ≤ W0.heap.size) :
    Kd.R kP 59 W w.heap.size (fun k => k ≠ vb) v ps :=
  Kd.R_lower (Kd.R_below (Kd.R_mono (Kd.R_bound h) (fun k hk => by have h1 := hk.2.1; have h2 := hk.2.2.1; omega)) hb) hl
set_option maxRecDepth 100000 in
set_option maxHeartbeats 8000000 in
theorem app_calls (A : Option Addr) (c : Nat) (s : List Se) (A1 : Option Addr) (c1 : Nat) (l : List Lb) (t v : Int) (w : World) (hk : ∃ k, store_Right.f k s = some (decide (StOk s))) (hz : StOk s → s.length ≤ 1000 ∧ ∀ x ∈ s, x.f1.length ≤ 1000) (hlz : l.length ≤ 1000)
    (hC : Kd.C k59 w A s.length s) (hc : s.length ≤ c) (hC1 : Kd.C k67 w A1 l.length l) (hc1 : l.length ≤ c1) (hG : GL w) :
    Calls Tryd.prog 18 #[.slice A s.length c, .slice A1 l.length c1, .agg #[.int .i64 t, .int .u64 v]] w (AppPost w (app s l t v)) := by
  obtain ⟨k, hk⟩ := hk
  have H2 : Aside0 (∀ W, RowKit.Below w.heap.size w W → Calls Tryd.prog 38 #[.slice A s.length c] W fun e w' => e = .returned (.bool (decide (StOk s))) ∧ RowKit.Below W.heap.size W w') :=
    ⟨fun W hW => store_Right.calls k A c s _ W (Kd.C_below hC hW) hc (hG.below hW) hk⟩
  have HMK : Aside0 (∀ W, RowKit.Below w.heap.size w W → Calls Tryd.prog 39 #[.slice A1 l.length c1] W fun e w' => ∃ v0_ : Value, e = .returned (.tuple #[v0_, errW (mkL mayB l).2]) ∧ Kd.R k67 67 w' W.heap.size (fun _ => True) v0_ (mkL mayB l).1 ∧ RowKit.Below W.heap.size W w') :=
    ⟨fun W hW => label_Make.calls A1 c1 l _ _ W (Kd.C_below hC1 hW) hc1 (hG.below hW) (by unfold label_Make.f; rw [if_pos (by omega)])⟩
  have HT : Aside0 (∀ W, Calls Tryd.prog 40 #[.int .i64 t] W fun e w' => e = .returned (.bool (timeB t)) ∧ Drawn0 W w') := ⟨fun W => store_timely.calls t _ W (timely_is t)⟩
  have HN : Aside0 (∀ W, Calls Tryd.prog 41 #[.int .u64 v] W fun e w' => e = .returned (.int .u64 (normV v)) ∧ RowKit.Below W.heap.size W w') := ⟨fun W => value_Norm.calls v _ W rfl⟩
  have HC := Aside0.mk hC
  have HG := Aside0.mk hG
  have HK : Aside0 (∃ k, store_Right.f k s = some (decide (StOk s))) := ⟨⟨k, hk⟩⟩
  have HZ := Aside0.mk hz
  obtain ⟨R, hR⟩ : ∃ R, app s l t v = R := ⟨_, rfl⟩
  have HA := Aside0.mk hR
  rw [hR]
  clear hC hC1 hG hk hz hR
  by_cases hok : StOk s
  rotate_left
  · obtain rfl : ([], some 3) = R := by rw [← HA.out]; unfold app; rw [if_neg hok]
    clear HA
    rw [decide_eq_false hok] at H2
    go_enter Tryd.func18, Tryd.ntmps18
    go_wp2_with fail
    refine (H2.out _ (below_alloc (RowKit.Below.refl _ _) _)).mono ?_
    rintro e w1 ⟨rfl, hb1⟩
    have HB1 : Aside0 (RowKit.Below w.heap.size w w1) := ⟨below_then (below_alloc (RowKit.Below.refl _ _) _) (by simp) hb1⟩
    clear hb1
    go_wp2_with fail
    go_ret2
    exact post_nil HB1.out
  rw [decide_eq_true hok] at H2
  obtain ⟨hsz, hpz⟩ := HZ.out hok
  have HP := Aside0.mk hpz
  clear hpz HZ
  have HOK := Aside0.mk hok
  clear hok
  obtain ⟨⟨m, r2⟩, hmk⟩ : ∃ r, mkL mayB l = r := ⟨_, rfl⟩
  rw [hmk] at HMK
  have HA2 : Aside0 (R = appR s t v m r2) := ⟨by rw [← HA.out, app_ok HOK.out, hmk]⟩
  clear hmk HA
  go_enter Tryd.func18, Tryd.ntmps18
  go_wp2_with fail
  refine (H2.out _ (below_alloc (RowKit.Below.refl _ _) _)).mono ?_
  rintro e w1 ⟨rfl, hb1⟩
  have HB1 : Aside0 (RowKit.Below w.heap.size w w1) := ⟨below_then (below_alloc (RowKit.Below.refl _ _) _) (by simp) hb1⟩
  have q0 : w1.cell? ⟨w.heap.size, 0, none⟩ = some (.int .i64 t) := pw_cell_below hb1 (by simp)
  have q1 : w1.cell? ⟨w.heap.size, 1, none⟩ = some (.int .u64 v) := pw_cell_below hb1 (by simp)
  have qe : w1.heap[w.heap.size]? = some (.cells #[.int .i64 t, .int .u64 v] 40 (0, 0)) := al_below (al_new _ _) hb1
  have qf : w1.frozen? ⟨w.heap.size, 1, none⟩ = false := (hb1.frozen (p := ⟨w.heap.size, 1, none⟩) (by simp)).trans (by simp)
  clear hb1
  go_wp2_with fail
  refine (HMK.out _ HB1.out).mono ?_
  rintro e w2 ⟨v2, rfl, hr2, hb2⟩
  obtain ⟨A2, c2, rfl, hlc2, hC2⟩ := Kd.R_reads hr2
  have HR2 := Aside0.mk hr2
  have HZ1 : Aside0 (w.heap.size < w1.heap.size) := ⟨World.block_lt_of_cell? w1 _ q0⟩
  have HB2 : Aside0 (RowKit.Below w.heap.size w w2) := ⟨below_then HB1.out HB1.out.size hb2⟩
  have E2 : Aside0 (w2.heap[w.heap.size]? = some (.cells #[.int .i64 t, .int .u64 v] 40 (0, 0))) := ⟨al_below qe hb2⟩
  have Q2 : Aside0 (w2.cell? ⟨w.heap.size, 0, none⟩ = some (.int .i64 t) ∧ w2.cell? ⟨w.heap.size, 1, none⟩ = some (.int .u64 v) ∧ w2.frozen? ⟨w.heap.size, 1, none⟩ = false) :=
    ⟨pw_cell_below hb2 q0, pw_cell_below hb2 q1, (hb2.frozen (p := ⟨w.heap.size, 1, none⟩) (World.block_lt_of_cell? w1 _ q1)).trans qf⟩
  clear hb2 hr2 hC2 q0 q1 qf qe
  cases r2 with
  | some ec =>
    obtain rfl : R = ([], some ec) := HA2.out
    clear HA2
    simp only [errW]
    go_wp2_with fail
    go_ret2
    exact post_nil HB2.out
  | none =>
    simp only [errW]
    by_cases hm : m = []
    · subst hm
      obtain rfl : R = ([], some 1) := HA2.out
      clear HA2
      go_wp2_with fail
      go_ret2
      exact post_nil HB2.out
    have hm0 : ((m.length : Int) == 0) = false := by
      rw [beq_eq_false_iff_ne]
      intro h
      exact hm (List.length_eq_zero_iff.1 (by omega))
    have hm1 : (m.length = 0) = False := eq_false (fun h => hm (List.length_eq_zero_iff.1 h))
    have HA3 : Aside0 (R = appT s t v m) := ⟨by rw [HA2.out]; exact if_neg hm⟩
    clear HA2
    have q0 := Q2.out.1
    by_cases ht : timeB t = true
    rotate_left
    · obtain rfl : R = ([], some 4) := by rw [HA3.out]; exact if_neg ht
      clear HA3
      rw [Bool.not_eq_true] at ht
      rw [ht] at HT
      go_wp2_with (go_at_call 40; refine (HT.out _).mono ?_; rintro e w3 ⟨rfl, hd3⟩; have HB3 : Aside0 (RowKit.Below w.heap.size w w3) := ⟨below_then HB2.out HB2.out.size hd3.below⟩; clear hd3)
      go_ret2
      exact post_nil HB3.out
    have HA4 : Aside0 (R = appP s t v m) := ⟨by rw [HA3.out]; exact if_pos ht⟩
    clear HA3
    rw [ht] at HT
    have q1 := Q2.out.2.1
    have qf := Q2.out.2.2
    go_wp2_with (first
      | (go_at_call 40; refine (HT.out _).mono ?_; rintro e w3 ⟨rfl, hd3⟩; have HB3 : Aside0 (RowKit.Below w.heap.size w w3) := ⟨below_then HB2.out HB2.out.size hd3.below⟩; have r0 := pw_cell_below hd3.below q0; have r1 := pw_cell_below hd3.below q1; have HR3 := Aside0.mk (Kd.R_below HR2.out hd3.below); have E3 := Aside0.mk (al_below E2.out hd3.below); have rf : w3.frozen? ⟨w.heap.size, 1, none⟩ = false := (hd3.below.frozen (p := ⟨w.heap.size, 1, none⟩) (World.block_lt_of_cell? _ _ q1)).trans qf; clear hd3)
      | (go_at_call 41; refine (HN.out _).mono ?_; rintro e w4 ⟨rfl, hd4⟩; have HB4 : Aside0 (RowKit.Below w.heap.size w w4) := ⟨below_then HB3.out HB3.out.size hd4⟩; have s0 := pw_cell_below hd4 r0; have s1 := pw_cell_below hd4 r1; have HR4 := Aside0.mk (Kd.R_below HR3.out hd4); have E4 := Aside0.mk (al_below E3.out hd4); have sf : w4.frozen? ⟨w.heap.size, 1, none⟩ = false := (hd4.frozen (p := ⟨w.heap.size, 1, none⟩) (World.block_lt_of_cell? _ _ r1)).trans rf; clear hd4))
    have HB5 : Aside0 (RowKit.Below w.heap.size w (w4.setCell ⟨w.heap.size, 1, none⟩ (.int .u64 (normV v)))) := ⟨HB4.out.setCell (Nat.le_refl _) _⟩
    have hz4 : w.heap.size < w4.heap.size := World.block_lt_of_cell? w4 _ s0
    have u0 : (w4.setCell ⟨w.heap.size, 1, none⟩ (.int .u64 (normV v))).cell? ⟨w.heap.size, 0, none⟩ = some (.int .i64 t) := by rw [World.cell?_setCell_other _ _ _ _ (by simp)]; exact s0
    have u1 : (w4.setCell ⟨w.heap.size, 1, none⟩ (.int .u64 (normV v))).cell? ⟨w.heap.size, 1, none⟩ = some (.int .u64 (normV v)) := World.cell?_setCell_same _ _ _ s1
    have hR5 : Kd.R k67 67 (w4.setCell ⟨w.heap.size, 1, none⟩ (.int .u64 (normV v))) w.heap.size (fun _ => True) (.slice A2 m.length c2) m :=
      Kd.R_lower (Kd.R_mono (Kd.R_far (p := ⟨w.heap.size, 1, none⟩) (Kd.R_bound HR4.out) (fun k hk => by have h1 := hk.2.1; have h2 := HZ1.out; show k ≠ w.heap.size; omega) (.int .u64 (normV v))) (fun _ _ => trivial)) (Nat.le_of_lt HZ1.out)
    have hC5 : Kd.C k67 (w4.setCell ⟨w.heap.size, 1, none⟩ (.int .u64 (normV v))) A2 m.length m := by
      obtain ⟨A', c', he, _, h⟩ := Kd.R_reads hR5
      injection he with e1 e2 e3
      rw [e1]; exact h
    refine (find_calls A c s A2 c2 m _ HK.out (by omega) (Kd.C_below HC.out HB5.out) hc hC5 hlc2 (HG.out.below HB5.out)).mono ?_
    rintro e w5 ⟨rfl, hb5⟩
    have HB6 : Aside0 (RowKit.Below w.heap.size w w5) := ⟨below_then HB5.out HB5.out.size hb5⟩
    have E5 : (w4.setCell ⟨w.heap.size, 1, none⟩ (.int .u64 (normV v))).heap[w.heap.size]? = some (.cells #[.int .i64 t, .int .u64 (normV v)] 40 (0, 0)) := blk_set E4.out 1 (.int .u64 (normV v))
    have E6 := Aside0.mk (al_below E5 hb5)
    have x0 := pw_cell_below hb5 u0
    have x1 := pw_cell_below hb5 u1
    have HR6 := Aside0.mk (Kd.R_below hR5 hb5)
    clear E5 E4 E3 E2 hb5 s0 s1 sf r0 r1 rf u0 u1 q0 q1 qf Q2 hC5 hR5 HR2 HR3 HR4 HB5 HB4 HB3 HB2 HB1 hz4
    obtain ⟨ps, hpl, hps, hpk⟩ := C_split HC.out
    have hcase := idx_has_ s m
    cases hh : hasS s m with
    | false =>
      rw [hh] at hcase
      have hne : ¬ eqAt s m < s.length := by
        rcases hcase with h | ⟨_, h⟩
        · exact absurd h.1 (by decide)
        · intro h2; have : idxP (fun x => decide (cL x.f0 m = 0)) s = (eqAt s m : Nat) := if_pos h2
          rw [h] at this; omega
      have hput : put m ⟨t, normV v⟩ s = some (s.take (geAt s m) ++ ⟨m, [⟨t, normV v⟩]⟩ :: s.drop (geAt s m)) := by rw [put_at _ _ _ HOK.out.2, dif_neg hne]
      have hfi : findI s m = geAt s m := by unfold findI; rw [hh]; rfl
      have hkl : geAt s m ≤ s.length := List.findIdx_le_length
      obtain ⟨kk, hkk⟩ : ∃ kk, kk = geAt s m := ⟨_, rfl⟩
      rw [← hkk] at hput hfi hkl
      have HR : Aside0 (R = (s.take kk ++ ⟨m, [⟨t, normV v⟩]⟩ :: s.drop kk, none)) := ⟨by rw [HA4.out]; unfold appP; rw [hput]⟩
      rw [hfi]
      have HCL : Aside0 (∀ W, RowKit.Below w.heap.size w W → Calls Tryd.prog 43 #[.slice A s.length c] W fun e w' => ∃ v, e = .returned v ∧ Kd.R kP 59 w' W.heap.size (fun _ => True) v ps ∧ RowKit.Below W.heap.size W w') := ⟨fun W hW => by
        have := se_clone A c ps W (by rw [hpl]; exact Kd.C_below hps hW) (by omega)
        rw [hpl] at this
        exact this⟩
      have HIN : Aside0 (∀ (W : World) (vb : Nat) (v6 : Value), RowKit.Below w.heap.size w W → Kd.R k67 67 W w.heap.size (fun _ => True) (.slice A2 m.length c2) m → (∃ b3 : Nat, W.heap[b3]? = some (.cells #[.int .i64 t, .int .u64 (normV v)] 40 (0, 0)) ∧
          W.heap[vb]? = some (.cells #[.slice A2 m.length c2, .slice (some ⟨b3, 0, none⟩) 1 1] 59 (0, 0))) → Kd.R kP 59 W w.heap.size (fun k => k ≠ vb) v6 ps →
          Calls Tryd.prog 42 #[v6, .int .i64 kk, .slice (some ⟨vb, 0, none⟩) 1 1] W fun en w' => ∃ A' c', en = .returned (.slice A' (s.take kk ++ ⟨m, [⟨t, normV v⟩]⟩ :: s.drop kk).length c') ∧ (s.take kk ++ ⟨m, [⟨t, normV v⟩]⟩ :: s.drop kk).length ≤ c' ∧
            Kd.C k59 w' A' (s.take kk ++ ⟨m, [⟨t, normV v⟩]⟩ :: s.drop kk).length (s.take kk ++ ⟨m, [⟨t, normV v⟩]⟩ :: s.drop kk) ∧ RowKit.Below w.heap.size w w' ∧ OtherRows W w') :=
        ⟨fun W vb v6 hW hm ⟨b3, h0, hvb⟩ hR => ins_se w s ps hpl hsz hpk kk hkl m A2 c2 hlc2 ⟨t, normV v⟩ W vb b3 v6 hW hm h0 hvb hR⟩
      obtain ⟨o, ho⟩ : ∃ o, o = s.take kk ++ ⟨m, [⟨t, normV v⟩]⟩ :: s.drop kk := ⟨_, rfl⟩
      rw [← ho] at HR HIN
      clear hput hfi hkk hne hcase hh hps hpk HA4 ho
      have hz5 : w.heap.size < w5.heap.size := World.block_lt_of_cell? w5 _ x0
      have S0 := keepP (keepS HB6.out HR6.out E6.out) (below_drew (RowKit.Below.refl w5.heap.size w5))
      have hz6 : w.heap.size ≤ w5.heap.size := Nat.le_of_lt hz5
      go_wp2_with fail
      go_region_held3 (fun w' => w'.cell? ⟨w.heap.size, 0, none⟩ = some (.int .i64 t) ∧ w'.cell? ⟨w.heap.size, 1, none⟩ = some (.int .u64 (normV v)) ∧ Aside0 (RowKit.Below w.heap.size w w' ∧ Kd.R k67 67 w' w.heap.size (fun _ => True) (.slice A2 m.length c2) m ∧ w'.heap[w.heap.size]? = some (.cells #[.int .i64 t, .int .u64 (normV v)] 40 (0, 0))))
        (first | exact S0 | exact keepI (by assumption) (by assumption) (by assumption) | exact keepP (by assumption) (by assumption) | exact keepP (by assumption) (below_alloc (RowKit.Below.refl _ _) _) | exact keepP (keepP (by assumption) (below_alloc (RowKit.Below.refl _ _) _)) (below_alloc (RowKit.Below.refl _ _) _))
        (first
          | (go_at_call 43; refine (HCL.out _ ?_).mono ?_; exact kB (by assumption); rintro e w6 ⟨v6, rfl, hr6, hb6⟩)
          | (go_at_call 42; refine (HIN.out _ _ _ ?_ ?_ ?_ ?_).mono ?_; exact kB (by assumption); exact kR (by assumption); (first | exact ⟨_, al_old (al_new _ _), al_newE (by simp)⟩ | exact ⟨_, al_old (al_below (al_drew (al_new _ _)) hb6), al_newE (by simp)⟩ | exact ⟨_, al_below (al_drew (al_old (al_new _ _))) hb6, al_below (al_drew (al_newE (by simp))) hb6⟩); exact R_six hr6 (by repeat (first | exact RowKit.Below.refl _ _ | apply below_alloc)) (by first | omega | (simp; omega) | simp) (by first | omega | (simp; omega) | simp); rintro e w7 ⟨A7, c7, rfl, hl7, hC7, hb7, ho7⟩))
      all_goals
        go_wp2_with fail
        go_ret2
        rw [HR.out]
        exact ⟨A7, c7, rfl, hl7, hC7, hb7⟩
    | true =>
      rw [hh] at hcase
      obtain ⟨hlt, hidx⟩ : eqAt s m < s.length ∧ findI s m = eqAt s m := by
        rcases hcase with h | ⟨h, _⟩
        · exact ⟨h.2.2, by unfold findI; rw [hh]; rfl⟩
        · exact absurd h (by decide)
      rw [hidx]
      obtain ⟨j, hj⟩ : ∃ j, j = eqAt s m := ⟨_, rfl⟩
      have hput : put m ⟨t, normV v⟩ s = if t ≤ Sto.lastT (s[eqAt s m]'hlt).f1 then none else some (s.set (eqAt s m) ⟨(s[eqAt s m]'hlt).f0, (s[eqAt s m]'hlt).f1 ++ [⟨t, normV v⟩]⟩) := by rw [put_at _ _ _ HOK.out.2, dif_pos hlt]
      have hxk := HOK.out.1 _ (List.getElem_mem hlt)
      have hxz := HP.out _ (List.getElem_mem hlt)
      obtain ⟨ad, A3, c3, A4, c4, rfl, y0, y1, g1, g2, g3, g4⟩ := at_T59 (Kd.C_below HC.out HB6.out) (eqAt s m : Nat) (by omega) (by omega)
      rw [se_rd s _ hlt] at y0 y1 g1 g2 g3 g4
      rw [Int.toNat_natCast] at y0 y1
      obtain ⟨x, hx0⟩ : ∃ x, x = s[eqAt s m]'hlt := ⟨_, rfl⟩
      rw [← hx0] at y0 y1 g1 g2 g3 g4 hput hxk hxz
      have hlast : ∀ h : x.f1.length - 1 < x.f1.length, Sto.lastT x.f1 = (x.f1[x.f1.length - 1]'h).f0 := fun h => by
        unfold Sto.lastT; rw [List.getLast?_eq_getElem?, List.getElem?_eq_getElem h]; rfl
      have hpos : 0 < x.f1.length := List.length_pos_iff.2 hxk.2.2.1
      obtain ⟨ad5, hA5, z0, _⟩ := at_T40 g4 ((x.f1.length - 1 : Nat) : Int) (by omega) (by omega)
      subst hA5
      rw [pt_rd x.f1 _ (by omega), ← hlast (by omega)] at z0
      rw [Int.toNat_natCast] at z0
      obtain ⟨q, hq⟩ : ∃ q, q = x.f1.length - 1 := ⟨_, rfl⟩
      rw [← hq] at z0
      obtain ⟨lt, hlt2⟩ : ∃ lt, lt = Sto.lastT x.f1 := ⟨_, rfl⟩
      rw [← hlt2] at z0 hput
      have hx : s[eqAt s m]? = some x := by rw [hx0]; exact List.getElem?_eq_getElem hlt
      clear hx0
      rw [← hj] at y0 y1 hput hlt hx ⊢
      have i1 : ((j : Int) < (s.length : Int)) = True := eq_true (by omega)
      have i1n : (j < s.length) = True := eq_true (by omega)
      have i2 : IntKind.i64.wrap ((x.f1.length : Int) - 1) = (q : Int) := by have := g4.2.1; rw [IntKind.wrap_i64]; omega
      have i3 : ((q : Int) < (x.f1.length : Int)) = True := eq_true (by omega)
      have i3n : (q < x.f1.length) = True := eq_true (by omega)
      have HX := Aside0.mk hx
      have HQ := Aside0.mk hq
      have HG4 := Aside0.mk g4
      have HXK := Aside0.mk hxk
      have HPK := Aside0.mk hpk
      have HPS := Aside0.mk hps
      clear hx hq hlast hxk hlt2 hcase hh hidx hj hpk hps g1 g2 g4 y0
      by_cases hle : t ≤ lt
      · rw [if_pos hle] at hput
        obtain rfl : R = ([], some 3) := by rw [HA4.out]; unfold appP; rw [hput]
        clear HA4 hput
        have i4 : (t ≤ lt) = True := eq_true hle
        have hbd : RowKit.Below w5.heap.size w5 w5.drew := below_drew (RowKit.Below.refl _ _)
        go_wp2_with fail
        go_region_held3 (fun w' => w'.cell? (ad5.add (q * 2)) = some (.int .i64 lt) ∧ w'.cell? ⟨w.heap.size, 0, none⟩ = some (.int .i64 t) ∧ w' = w5.drew)
          (first | exact ⟨pw_cell_below hbd z0, pw_cell_below hbd x0, rfl⟩) (fail)
        go_wp2_with fail
        go_ret2
        exact post_nil (below_drew1 HB6.out)
      · rw [if_neg hle] at hput
        have HR : Aside0 (R = (s.set j ⟨x.f0, x.f1 ++ [⟨t, normV v⟩]⟩, none)) := ⟨by rw [HA4.out]; unfold appP; rw [hput]⟩
        clear HA4 hput
        have i4 : (t ≤ lt) = False := eq_false hle
        have hbd : RowKit.Below w5.heap.size w5 w5.drew := below_drew (RowKit.Below.refl _ _)
        go_wp2_with fail
        go_region_held3 (fun w' => w'.cell? (ad5.add (q * 2)) = some (.int .i64 lt) ∧ w'.cell? ⟨w.heap.size, 0, none⟩ = some (.int .i64 t) ∧ w' = w5.drew)
          (first | exact ⟨pw_cell_below hbd z0, pw_cell_below hbd x0, rfl⟩) (fail)
        go_wp2_with fail
        have hcl := se_clone (some ad) c ps w5.drew (by rw [hpl]; exact Kd.C_below HPS.out (below_drew1 HB6.out)) (by omega)
        rw [hpl] at hcl
        refine hcl.mono ?_
        rintro e w7 ⟨v7, rfl, hr7, hb7⟩
        have HB7 : Aside0 (RowKit.Below w.heap.size w w7) := ⟨below_then (below_drew1 HB6.out) HB6.out.size hb7⟩
        have HB7b := Aside0.mk hb7
        have x07 := pw_cell_below hb7 (pw_cell_below hbd x0)
        have x17 := pw_cell_below hb7 (pw_cell_below hbd x1)
        rcases pv_two hr7 with ⟨_, hnil⟩ | ⟨g, cap, rfl, hBg, hT⟩
        · rw [hnil] at hpl; simp at hpl; omega
        rw [hpl]
        have HT7 := Aside0.mk hT
        have HBG : Aside0 (w.heap.size ≤ g) := ⟨Nat.le_trans HB6.out.size hBg⟩
        have HBg : Aside0 (w5.heap.size ≤ g) := ⟨hBg⟩
        have HZ5 : Aside0 (w.heap.size < w5.heap.size) := ⟨World.block_lt_of_cell? w5 _ x0⟩
        have hmx : x.f1.length ≤ 9223372036854775807 := by omega
        have i5 : (0 : Int) ≤ (x.f1.length : Int) := by omega
        have i6 : (x.f1.length : Int) ≤ (c4 : Int) := by omega
        clear hcl hr7 hb7 hT hBg x0 x1 z0 y1
        obtain ⟨i0, hi0, hiz, his, hib⟩ := info_parts infoPt
        obtain ⟨O, hO⟩ : ∃ O, O = Obj.cells #[.int .i64 t, .int .u64 (normV v)] 40 := ⟨_, rfl⟩
        have hg4 := Kd.C_below (Kd.C_below HG4.out (below_drew1 (RowKit.Below.refl _ _))) HB7b.out
        obtain ⟨olds, hol, hold, hov⟩ := pt_cells hg4
        obtain ⟨N, hN⟩ : ∃ N, N = w7.heap.size := ⟨_, rfl⟩
        obtain ⟨G, hG⟩ : ∃ G, G = grownCap (w7.alloc O).drew (x.f1.length + 1) x.f1.length 40 := ⟨_, rfl⟩
        obtain ⟨ROW, hROW⟩ : ∃ ROW, ROW = olds.toArray ++ #[.int .i64 t, .int .u64 (normV v)] ++ Builtin.zeroCells (Value.agg #[.int .i64 0, .int .u64 0]).cells (G - (x.f1.length + 1)) := ⟨_, rfl⟩
        obtain ⟨W8, hW8⟩ : ∃ W8, W8 = (w7.alloc O).drew.drew.alloc (.cells ROW 40) := ⟨_, rfl⟩
        have hsz8 : ((w7.alloc O).drew).heap.size = N + 1 := by rw [hN]; simp
        have hWA : RowKit.Below w7.heap.size w7 (w7.alloc O).drew := below_drew1 (below_alloc (RowKit.Below.refl _ _) _)
        have hap : ∀ ty, (Builtin.append_ #[57, 57] ty #[.slice (some ad5) x.f1.length x.f1.length, .slice (some ⟨w7.heap.size, 0, none⟩) 1 1]).run Tryd.prog (w7.alloc O).drew = .ok (.slice (some ⟨N + 1, 0, none⟩) (x.f1.length + 1) G) W8 := fun ty => by
          have h := run_append_grow (P := Tryd.prog) (w := (w7.alloc O).drew) 57 ty 40 i0 _ Tryd.underlying57 hi0 hiz ad5 x.f1.length x.f1.length olds (by rw [his]; exact hol) (fun k u hk => pw_cell_below hWA (hold k u hk))
            ⟨w7.heap.size, 0, none⟩ 1 1 [.int .i64 t, .int .u64 (normV v)] (by rw [his]; rfl) (fun k u hk => by
              rw [Addr.add_lit, Nat.zero_add]
              rw [hO]
              have e1 := blk_cell (w := (w7.alloc (.cells #[.int .i64 t, .int .u64 (normV v)] 40)).drew) (al_drew (al_new w7 _)) k
              rw [e1]
              simpa using hk) (by omega) (by omega) (by rw [hib]; exact growslice_fits (by omega) (by omega))
          rw [hsz8, ← hG] at h
          rw [hW8, hROW]
          exact h
        have hB8 : RowKit.Below w7.heap.size w7 W8 := by rw [hW8]; exact below_alloc (below_drew1 hWA) _
        have hk8 : W8.heap[N + 1]? = some (.cells ROW 40 (0, 0)) := by
          rw [hW8]; exact al_newE (by rw [← hsz8]; rfl)
        have hT8 := HT7.out.below hB8 HT7.out.lt
        have hjp : j < ps.length := by omega
        have y8 := (hT8.cell j hjp).2
        have f8 := hT8.frozen (j * 2 + 1)
        have hgN : g < N + 1 := by have := HT7.out.lt; omega
        have hGn : x.f1.length + 1 ≤ G := by rw [hG]; exact grownCap_ge _ _ _ _
        have hGm : G ≤ maxLen := by rw [hG]; exact grownCap_le_maxLen _ _ _ _ (by unfold maxLen; omega)
        obtain ⟨nv, hnv⟩ : ∃ nv : Value, nv = .slice (some ⟨N + 1, 0, none⟩) (x.f1.length + 1) G := ⟨_, rfl⟩
        have h1nv : nv.oneCell' = true := by rw [hnv]; rfl
        have HF : Aside0 (Kd.C k59 (W8.setCell ⟨g, j * 2 + 1, none⟩ (.slice (some ⟨N + 1, 0, none⟩) (x.f1.length + 1) G)) (some ⟨g, 0, none⟩) (s.set j ⟨x.f0, x.f1 ++ [⟨t, normV v⟩]⟩).length (s.set j ⟨x.f0, x.f1 ++ [⟨t, normV v⟩]⟩) ∧ (s.set j ⟨x.f0, x.f1 ++ [⟨t, normV v⟩]⟩).length ≤ cap ∧ RowKit.Below w.heap.size w (W8.setCell ⟨g, j * 2 + 1, none⟩ (.slice (some ⟨N + 1, 0, none⟩) (x.f1.length + 1) G))) := ⟨by
          have hbw : RowKit.Below w.heap.size w (W8.setCell ⟨g, j * 2 + 1, none⟩ (.slice (some ⟨N + 1, 0, none⟩) (x.f1.length + 1) G)) := (below_then HB7.out HB7.out.size hB8).setCell HBG.out _
          have hT9 := two_set1 hT8 j hjp (ps[j].1, ⟨nv, h1nv⟩) rfl
          rw [show e1 (ps[j].1, (⟨nv, h1nv⟩ : V1)) = .slice (some ⟨N + 1, 0, none⟩) (x.f1.length + 1) G from hnv] at hT9
          obtain ⟨A', c', he, hlc, hC⟩ := Kd.R_reads (pv_R hT9 HBG.out)
          injection he with e1' e2' e3'
          have hk9 : (W8.setCell ⟨g, j * 2 + 1, none⟩ (.slice (some ⟨N + 1, 0, none⟩) (x.f1.length + 1) G)).heap[N + 1]? = some (.cells ROW 40 (0, 0)) := (RowKit.Below.heap_setCell W8 ⟨g, j * 2 + 1, none⟩ _ (N + 1) (by show N + 1 ≠ g; omega)).trans hk8
          have hCP : Kd.C k40 (W8.setCell ⟨g, j * 2 + 1, none⟩ (.slice (some ⟨N + 1, 0, none⟩) (x.f1.length + 1) G)) (some ⟨N + 1, 0, none⟩) (x.f1 ++ [(⟨t, normV v⟩ : Pt)]).length (x.f1 ++ [(⟨t, normV v⟩ : Pt)]) := by
            refine ⟨rfl, by simp; omega, fun _ => ⟨_, rfl, fun i p hp => ?_⟩⟩
            have hil := (List.getElem?_eq_some_iff.1 hp).1
            have hlen : (x.f1 ++ [(⟨t, normV v⟩ : Pt)]).length = x.f1.length + 1 := by simp
            have hrow : ∀ q, q < 2 → ROW[i * 2 + q]? = [Value.int .i64 p.f0, Value.int .u64 p.f1][q]? := by
              intro q hq
              rw [hROW]
              rcases Nat.lt_or_ge i x.f1.length with h | h
              · rw [Array.getElem?_append_left (by simp [hol]; omega), Array.getElem?_append_left (by simp [hol]; omega)]
                rw [List.getElem?_append_left h, List.getElem?_eq_getElem h] at hp
                obtain rfl := Option.some.inj hp
                have := hov i h
                simp only [List.getElem?_toArray]
                match q, hq with
                | 0, _ => exact this.1
                | 1, _ => exact this.2
              · have hi : i = x.f1.length := by omega
                rw [List.getElem?_append_right h, hi, Nat.sub_self] at hp
                obtain rfl := Option.some.inj hp
                rw [Array.getElem?_append_left (by simp [hol]; omega), Array.getElem?_append_right (by simp [hol]; omega)]
                simp only [List.size_toArray, hol, hi]
                match q, hq with
                | 0, _ => simp
                | 1, _ => simp
            refine ⟨[.int .i64 p.f0, .int .u64 p.f1], rfl, k40_mk _ p, fun q u hq => ?_⟩
            have hq2 : q < 2 := (List.getElem?_eq_some_iff.1 hq).1
            rw [Addr.add_lit, Nat.zero_add]
            rw [show i * k40.sz + q = i * 2 + q from rfl, blk_cell hk9, hrow q hq2]
            exact hq
          have hps9 : (ps.set j (ps[j].1, (⟨nv, h1nv⟩ : V1))).length = s.length := by rw [List.length_set, hpl]
          rw [List.length_set]
          refine ⟨?_, by have := HT7.out.len.1; omega, hbw⟩
          have hC2 : Kd.C kP (W8.setCell ⟨g, j * 2 + 1, none⟩ (.slice (some ⟨N + 1, 0, none⟩) (x.f1.length + 1) G)) (some ⟨g, 0, none⟩) s.length (ps.set j (ps[j].1, (⟨nv, h1nv⟩ : V1))) := by
            rw [← e1'] at hC
            rw [← hps9]; exact hC
          refine C_join hC2 (by rw [List.length_set, hps9]) fun i h1 h2 => ?_
          rw [List.length_set] at h1
          by_cases hij : j = i
          · subst hij
            rw [List.getElem_set_self, List.getElem_set_self]
            obtain ⟨A0', c0', A1', c1', hcs, q1, q2, q3, q4⟩ := k59_open (HPK.out j h1 hjp)
            have hxj : s[j] = x := by
              have := HX.out
              rw [List.getElem?_eq_getElem h1] at this
              exact Option.some.inj this
            rw [hxj] at hcs q1 q2
            have hc0 : ps[j].1.1 = .slice A0' x.f0.length c0' := (List.cons.inj hcs).1
            show k59.K _ _ [ps[j].1.1, nv]
            rw [hc0, hnv]
            have := k59_mk (W8.setCell ⟨g, j * 2 + 1, none⟩ (.slice (some ⟨N + 1, 0, none⟩) (x.f1.length + 1) G)) (⟨x.f0, x.f1 ++ [(⟨t, normV v⟩ : Pt)]⟩ : Se) (A0 := A0') (c0 := c0') q1 (Kd.C_below q2 hbw) (A1 := some ⟨N + 1, 0, none⟩) (c1 := G) (by simp; omega) hCP
            simpa using this
          · rw [List.getElem_set_ne hij, List.getElem_set_ne hij]
            exact k59.K_below hbw (HPK.out i h1 (by omega))⟩
        have F0 : w7.drew.cell? ⟨w.heap.size, 0, none⟩ = some (.int .i64 t) ∧ w7.drew.cell? ⟨w.heap.size, 1, none⟩ = some (.int .u64 (normV v)) := ⟨x07, x17⟩
        have F1 : (w7.alloc O).drew.cell? ⟨w.heap.size, 0, none⟩ = some (.int .i64 t) ∧ (w7.alloc O).drew.cell? ⟨w.heap.size, 1, none⟩ = some (.int .u64 (normV v)) := ⟨pw_cell_below hWA x07, pw_cell_below hWA x17⟩
        have F2 : W8.cell? ⟨w.heap.size, 0, none⟩ = some (.int .i64 t) ∧ W8.cell? ⟨w.heap.size, 1, none⟩ = some (.int .u64 (normV v)) := ⟨pw_cell_below hB8 x07, pw_cell_below hB8 x17⟩
        have F3 : g ≠ w.heap.size → (W8.setCell ⟨g, j * 2 + 1, none⟩ (.slice (some ⟨N + 1, 0, none⟩) (x.f1.length + 1) G)).cell? ⟨w.heap.size, 0, none⟩ = some (.int .i64 t) ∧ (W8.setCell ⟨g, j * 2 + 1, none⟩ (.slice (some ⟨N + 1, 0, none⟩) (x.f1.length + 1) G)).cell? ⟨w.heap.size, 1, none⟩ = some (.int .u64 (normV v)) := fun hne =>
          ⟨by rw [World.cell?_setCell_other _ _ _ _ (fun e => hne (congrArg Addr.block e))]; exact F2.1, by rw [World.cell?_setCell_other _ _ _ _ (fun e => hne (congrArg Addr.block e))]; exact F2.2⟩
        have F3 := F3 (by have h1 := HBg.out; have h2 := HZ5.out; omega)
        rw [hO] at hap F1
        clear hW8 hROW hnv h1nv hG hN hB8 hk8 hT8 hWA hO hol hold hov hsz8 hg4 hi0
        go_wp2_with fail
        go_region_held3 (fun w' => w'.cell? ⟨w.heap.size, 0, none⟩ = some (.int .i64 t) ∧ w'.cell? ⟨w.heap.size, 1, none⟩ = some (.int .u64 (normV v)))
          (first | exact F0 | exact F1 | exact F2 | exact F3) ((refine step_app_run rfl _ _ 57 57 rfl _ _ (by simp [Act.eval, Act.put]) (by simp [Act.eval, Act.put]) (hap _) ?_))
        all_goals go_wp2_with fail
        go_ret2
        rw [HR.out]
        obtain ⟨k1, k2, k3⟩ := HF.out
        exact ⟨some ⟨g, 0, none⟩, cap, by rw [List.length_set]; rfl, k2, k1, k3⟩
end Go.Proofs.YtlelcmkbcejjkaaDoor.L
namespace Go.Proofs.YtlelcmkbcejjkaaDoor.L
open Go.Proofs Go.Proofs.YtlelcmkbcejjkaaDoor.Lab Go.Proofs.YtlelcmkbcejjkaaDoor.Cmp Go.Proofs.YtlelcmkbcejjkaaDoor.Sto
open Go.RowKit Go.Proofs.YtlelcmkbcejjkaaDoorW.PrintWords
set_option linter.unusedVariables false
set_option linter.unusedSimpArgs false
theorem ptz_rd (l : List Pt) (i : Nat) (h : i < l.length) : rd_T40 l (i : Int) = l[i] := by
  simp [rd_T40, List.getD_eq_getElem?_getD, List.getElem?_eq_getElem h]
theorem timely_eq (t : Int) : store_timely.f t = some (timeB t) := by
  unfold store_timely.f timeB
  by_cases h : t ≥ -1125899906842624
  · rw [if_pos h, decide_eq_true (show -1125899906842624 ≤ t from h), Bool.true_and]
  · rw [if_neg h, decide_eq_false (show ¬ -1125899906842624 ≤ t from h), Bool.false_and]
/-! ### points -/
def ptsFrom : Option Int → List Pt → Bool
  | _, [] => true
  | p, x :: r => ptB x && (match p with | none => true | some a => decide (a < x.f0)) && ptsFrom (some x.f0) r
theorem ptsFrom_some (l : List Pt) : ∀ a, ptsFrom (some a) l = true ↔ (∀ p ∈ l, a < p.f0) ∧ Rises l ∧ ∀ p ∈ l, ptB p = true := by
  induction l with
  | nil => intro a; simp [ptsFrom, Rises]
  | cons x r ih =>
    intro a
    simp only [ptsFrom, Bool.and_eq_true, decide_eq_true_eq, ih]
    unfold Rises
    rw [List.pairwise_cons]
    constructor
    · rintro ⟨⟨h1, h2⟩, h3, h4, h5⟩
      refine ⟨fun p hp => ?_, ⟨h3, h4⟩, fun p hp => ?_⟩
      · rcases List.mem_cons.1 hp with rfl | hp
        · exact h2
        · have := h3 p hp; omega
      · rcases List.mem_cons.1 hp with rfl | hp
        · exact h1
        · exact h5 p hp
    · rintro ⟨h1, ⟨h2, h3⟩, h4⟩
      exact ⟨⟨h4 x (by simp), h1 x (by simp)⟩, h2, h3, fun p hp => h4 p (List.mem_cons_of_mem _ hp)⟩
theorem ptsB_is (l : List Pt) : (ptsFrom none l && decide ((l.length : Int) > 0)) = decide (PtsOk l) := by
  rw [Bool.eq_iff_iff, Bool.and_eq_true, decide_eq_true_eq, decide_eq_true_eq]
  unfold PtsOk
  cases l with
  | nil => simp [ptsFrom]
  | cons x r =>
    simp only [ptsFrom, Bool.and_true, Bool.and_eq_true, ptsFrom_some]
    unfold Rises
    rw [List.pairwise_cons]
    constructor
    · rintro ⟨⟨h1, h2, h3, h4⟩, _⟩
      refine ⟨by simp, fun p hp => ?_, h2, h3⟩
      rcases List.mem_cons.1 hp with rfl | hp
      · exact h1
      · exact h4 p hp
    · rintro ⟨_, h1, h2, h3⟩
      exact ⟨⟨h1 x (by simp), h2, h3, fun p hp => h1 p (List.mem_cons_of_mem _ hp)⟩, by simp⟩
def prevT (l : List Pt) : Nat → Option Int
  | 0 => none
  | j + 1 => l[j]?.map (·.f0)
theorem pts_l0 (l : List Pt) (hs : l.length ≤ 9223372036854775807) (r : List Pt) : ∀ j : Nat, l.drop j = r → Lab.Ev (fun k => store_points.l0 k l l (l.length : Int) (j : Int)) (ptsFrom (prevT l j) r && decide ((l.length : Int) > 0)) := by
  induction r with
  | nil =>
    intro j h
    have hj := List.drop_eq_nil_iff.1 h
    refine Lab.Ev.done fun k => ?_
    simp only [store_points.l0]
    rw [if_neg (by omega)]
    simp [ptsFrom]
  | cons x r ih =>
    intro j h
    have hj : j < l.length := by
      rcases Nat.lt_or_ge j l.length with h1 | h1
      · exact h1
      · rw [List.drop_eq_nil_of_le h1] at h; cases h
    have he := List.drop_eq_getElem_cons hj
    rw [h] at he
    have hx : rd_T40 l (j : Int) = x := by rw [ptz_rd l j hj]; exact (List.cons.inj he).1.symm
    have h3 := ih (j + 1) (List.cons.inj he).2.symm
    have hp : prevT l (j + 1) = some x.f0 := by
      show l[j]?.map _ = _
      rw [List.getElem?_eq_getElem hj, ← (List.cons.inj he).1]; rfl
    rw [hp] at h3
    have base : ∀ k, store_points.l0 (k + 1) l l (l.length : Int) (j : Int) = if timeB x.f0 = true then (if normV x.f1 = x.f1 then (if (j : Int) > 0 then (if 0 ≤ (wrap64 ((j : Int) - 1)) then (if (wrap64 ((j : Int) - 1)) < (l.length : Int) then (if ((rd_T40 l (wrap64 ((j : Int) - 1))).f0) ≥ x.f0 then (some false) else (store_points.l0 k l l (l.length : Int) (wrap64 ((j : Int) + 1)))) else (none)) else (none)) else (store_points.l0 k l l (l.length : Int) (wrap64 ((j : Int) + 1)))) else (some false)) else (some false) := by
      intro k
      simp only [store_points.l0]
      rw [if_pos (by omega), if_pos (by omega), if_pos (by omega), hx, timely_eq]
      simp only [Option.bind_some]
      show (if timeB x.f0 = true then ((some (normV x.f1)).bind fun t => _) else _) = _
      rfl
    simp only [ptsFrom]
    rw [wrap_succ2 hj hs] at base
    by_cases c1 : timeB x.f0 = true
    · by_cases c2 : normV x.f1 = x.f1
      · have hb : ptB x = true := by unfold ptB; rw [c1, decide_eq_true c2]; rfl
        rw [hb, Bool.true_and]
        cases j with
        | zero =>
          show Lab.Ev _ (true && ptsFrom (some x.f0) r && _)
          rw [Bool.true_and]
          refine h3.step fun k => ?_
          rw [base k, if_pos c1, if_pos c2, if_neg (by omega)]
        | succ i =>
          have hpi : prevT l (i + 1) = some l[i].f0 := by
            show l[i]?.map _ = _
            rw [List.getElem?_eq_getElem (by omega)]; rfl
          rw [hpi]
          have hw : wrap64 (((i + 1 : Nat) : Int) - 1) = (i : Int) := by unfold wrap64; omega
          rw [hw] at base
          by_cases c3 : l[i].f0 < x.f0
          · rw [show (match some l[i].f0 with | none => true | some a => decide (a < x.f0)) = true from decide_eq_true c3, Bool.true_and]
            refine h3.step fun k => ?_
            rw [base k, if_pos c1, if_pos c2, if_pos (by omega), if_pos (by omega), if_pos (by omega), ptz_rd l i (by omega), if_neg (by omega)]
          · rw [show (match some l[i].f0 with | none => true | some a => decide (a < x.f0)) = false from decide_eq_false c3, Bool.false_and, Bool.false_and]
            refine Lab.Ev.done fun k => ?_
            rw [base k, if_pos c1, if_pos c2, if_pos (by omega), if_pos (by omega), if_pos (by omega), ptz_rd l i (by omega), if_pos (by omega)]
      · have hb : ptB x = false := by unfold ptB; rw [decide_eq_false c2, Bool.and_false]
        rw [hb, Bool.false_and, Bool.false_and, Bool.false_and]
        exact Lab.Ev.done fun k => by rw [base k, if_pos c1, if_neg c2]
    · have hb : ptB x = false := by unfold ptB; rw [Bool.not_eq_true] at c1; rw [c1, Bool.false_and]
      rw [hb, Bool.false_and, Bool.false_and, Bool.false_and]
      exact Lab.Ev.done fun k => by rw [base k, if_neg c1]
theorem pts_ev (l : List Pt) (hs : l.length ≤ 9223372036854775807) : Lab.Ev (fun k => store_points.f k l) (decide (PtsOk l)) := by
  rw [← ptsB_is]; exact pts_l0 l hs l 0 rfl
/-! ### stores -/
def stFrom : Option (List Lb) → List Se → Bool
  | _, [] => true
  | p, x :: r => decide (x.f0 ≠ []) && rightB mayB x.f0 && decide (PtsOk x.f1) && (match p with | none => true | some a => decide (cL a x.f0 < 0)) && stFrom (some x.f0) r
theorem stFrom_some (l : List Se) : ∀ a, stFrom (some a) l = true ↔ (∀ p ∈ l, cL a p.f0 < 0) ∧ l.Pairwise (fun a b => cL a.f0 b.f0 < 0) ∧ ∀ p ∈ l, SeOk p := by
  induction l with
  | nil => intro a; simp [stFrom]
  | cons x r ih =>
    intro a
    simp only [stFrom, Bool.and_eq_true, decide_eq_true_eq, ih]
    rw [List.pairwise_cons]
    constructor
    · rintro ⟨⟨⟨⟨h1, h2⟩, h3⟩, h4⟩, h5, h6, h7⟩
      refine ⟨fun p hp => ?_, ⟨h5, h6⟩, fun p hp => ?_⟩
      · rcases List.mem_cons.1 hp with rfl | hp
        · exact h4
        · exact ord_c.trans _ _ _ h4 (h5 p hp)
      · rcases List.mem_cons.1 hp with rfl | hp
        · exact ⟨h1, h2, h3⟩
        · exact h7 p hp
    · rintro ⟨h1, ⟨h2, h3⟩, h4⟩
      obtain ⟨a1, a2, a3⟩ := h4 x (by simp)
      exact ⟨⟨⟨⟨a1, a2⟩, a3⟩, h1 x (by simp)⟩, h2, h3, fun p hp => h4 p (List.mem_cons_of_mem _ hp)⟩
theorem stB_is (l : List Se) : stFrom none l = decide (StOk l) := by
  rw [Bool.eq_iff_iff, decide_eq_true_eq]
  unfold StOk
  cases l with
  | nil => simp [stFrom]
  | cons x r =>
    simp only [stFrom, Bool.and_true, Bool.and_eq_true, decide_eq_true_eq, stFrom_some]
    rw [List.pairwise_cons]
    constructor
    · rintro ⟨⟨⟨h1, h2⟩, h3⟩, h4, h5, h6⟩
      refine ⟨fun p hp => ?_, h4, h5⟩
      rcases List.mem_cons.1 hp with rfl | hp
      · exact ⟨h1, h2, h3⟩
      · exact h6 p hp
    · rintro ⟨h1, h2, h3⟩
      obtain ⟨a1, a2, a3⟩ := h1 x (by simp)
      exact ⟨⟨⟨a1, a2⟩, a3⟩, h2, h3, fun p hp => h1 p (List.mem_cons_of_mem _ hp)⟩
def prevM (l : List Se) : Nat → Option (List Lb)
  | 0 => none
  | j + 1 => l[j]?.map (·.f0)
/-- Every row of a store is short enough. -/
def SmallS (s : List Se) : Prop := s.length < 4611686018427387904 ∧ ∀ x ∈ s, x.f0.length < 4611686018427387904 ∧ x.f1.length ≤ 9223372036854775807
theorem st_l0 (l : List Se) (hs : SmallS l) (r : List Se) : ∀ j : Nat, l.drop j = r → Lab.Ev (fun k => store_Right.l0 k l l (l.length : Int) (j : Int)) (stFrom (prevM l j) r) := by
  induction r with
  | nil =>
    intro j h
    have hj := List.drop_eq_nil_iff.1 h
    refine Lab.Ev.done fun k => ?_
    simp only [store_Right.l0]
    rw [if_neg (by omega)]
    simp [stFrom]
  | cons x r ih =>
    intro j h
    have hj : j < l.length := by
      rcases Nat.lt_or_ge j l.length with h1 | h1
      · exact h1
      · rw [List.drop_eq_nil_of_le h1] at h; cases h
    have he := List.drop_eq_getElem_cons hj
    rw [h] at he
    have hx : rd_T59 l (j : Int) = x := by rw [se_rd l j hj]; exact (List.cons.inj he).1.symm
    have hxm : x ∈ l := by rw [(List.cons.inj he).1]; exact List.getElem_mem _
    obtain ⟨z1, z2⟩ := hs.2 x hxm
    have h3 := ih (j + 1) (List.cons.inj he).2.symm
    have hp : prevM l (j + 1) = some x.f0 := by
      show l[j]?.map _ = _
      rw [List.getElem?_eq_getElem hj, ← (List.cons.inj he).1]; rfl
    rw [hp] at h3
    obtain ⟨K1, r1⟩ := right_ev x.f0 z1
    obtain ⟨K2, r2⟩ := pts_ev x.f1 z2
    obtain ⟨K3, r3⟩ := h3
    have base : ∀ k, K1 ≤ k → K2 ≤ k → store_Right.l0 (k + 1) l l (l.length : Int) (j : Int) = if ((x.f0.length : Nat) : Int) = 0 then some false else (if rightB mayB x.f0 = true then (if decide (PtsOk x.f1) = true then (if (j : Int) > 0 then (if 0 ≤ (wrap64 ((j : Int) - 1)) then (if (wrap64 ((j : Int) - 1)) < (l.length : Int) then (if cL (rd_T59 l (wrap64 ((j : Int) - 1))).f0 x.f0 ≥ 0 then (some false) else (store_Right.l0 k l l (l.length : Int) (wrap64 ((j : Int) + 1)))) else (none)) else (none)) else (store_Right.l0 k l l (l.length : Int) (wrap64 ((j : Int) + 1)))) else (some false)) else (some false)) := by
      intro k g1 g2
      simp only [store_Right.l0]
      rw [if_pos (by omega), if_pos (by omega), if_pos (by omega), hx, show label_Right.f k x.f0 = some (rightB mayB x.f0) from r1 k g1, show store_points.f k x.f1 = some (decide (PtsOk x.f1)) from r2 k g2]
      rfl
    simp only [stFrom]
    rw [wrap_succ hj hs.1] at base
    refine ⟨K1 + K2 + K3 + 1, fun k hk => ?_⟩
    obtain ⟨k, rfl⟩ : ∃ m, k = m + 1 := ⟨k - 1, by omega⟩
    have hb := base k (by omega) (by omega)
    have h3k : store_Right.l0 k l l (l.length : Int) ((j + 1 : Nat) : Int) = some (stFrom (some x.f0) r) := r3 k (by omega)
    rw [h3k] at hb
    show store_Right.l0 (k + 1) l l (l.length : Int) (j : Int) = _
    rw [hb]
    by_cases c1 : x.f0 = []
    · rw [if_pos (by rw [c1]; rfl), decide_eq_false (fun h => h c1)]; rfl
    · have hne : ¬ ((x.f0.length : Nat) : Int) = 0 := by
        intro h; exact c1 (List.length_eq_zero_iff.1 (by omega))
      rw [if_neg hne, decide_eq_true c1, Bool.true_and]
      cases c2 : rightB mayB x.f0 with
      | false => rw [if_neg (by decide)]; rfl
      | true =>
        rw [if_pos rfl, Bool.true_and]
        by_cases c3 : PtsOk x.f1
        · rw [decide_eq_true c3, if_pos rfl, Bool.true_and]
          cases j with
          | zero => rw [if_neg (by omega)]; rfl
          | succ i =>
            have hpi : prevM l (i + 1) = some l[i].f0 := by
              show l[i]?.map _ = _
              rw [List.getElem?_eq_getElem (by omega)]; rfl
            have hw : wrap64 (((i + 1 : Nat) : Int) - 1) = (i : Int) := by rw [wrap_pred (by omega) (by have := hs.1; omega)]; rfl
            rw [hpi, hw, if_pos (by omega), if_pos (by omega), if_pos (by omega), se_rd l i (by omega)]
            by_cases c4 : cL l[i].f0 x.f0 < 0
            · rw [if_neg (by omega)]
              show _ = some (decide (cL l[i].f0 x.f0 < 0) && _)
              rw [decide_eq_true c4, Bool.true_and]
            · rw [if_pos (by omega)]
              show _ = some (decide (cL l[i].f0 x.f0 < 0) && _)
              rw [decide_eq_false c4, Bool.false_and]
        · rw [decide_eq_false c3, if_neg (by decide)]; rfl
theorem st_ev (l : List Se) (hs : SmallS l) : Lab.Ev (fun k => store_Right.f k l) (decide (StOk l)) := by
  rw [← stB_is]; exact st_l0 l hs l 0 rfl
/-! ### how many, the same, short -/
theorem many_l0 (l : List Se) (hs : l.length < 4611686018427387904) (r : List Se) : ∀ (j : Nat) (n : Nat), l.drop j = r → n + many r < 4611686018427387904 → Lab.Ev (fun k => store_Many.l0 k (n : Int) l (l.length : Int) (j : Int)) ((n + many r : Nat) : Int) := by
  induction r with
  | nil =>
    intro j n h _
    have hj := List.drop_eq_nil_iff.1 h
    refine Lab.Ev.done fun k => ?_
    simp only [store_Many.l0]
    rw [if_neg (by omega)]
    simp [many]
  | cons x r ih =>
    intro j n h hn
    have hj : j < l.length := by
      rcases Nat.lt_or_ge j l.length with h1 | h1
      · exact h1
      · rw [List.drop_eq_nil_of_le h1] at h; cases h
    have he := List.drop_eq_getElem_cons hj
    rw [h] at he
    have hx : rd_T59 l (j : Int) = x := by rw [se_rd l j hj]; exact (List.cons.inj he).1.symm
    have hm : many (x :: r) = x.f1.length + many r := by simp [many]
    rw [hm] at hn ⊢
    have h3 := ih (j + 1) (n + x.f1.length) (List.cons.inj he).2.symm (by omega)
    have hw : wrap64 ((n : Int) + (x.f1.length : Int)) = ((n + x.f1.length : Nat) : Int) := by unfold wrap64; omega
    rw [Nat.add_assoc] at h3
    refine h3.step fun k => ?_
    simp only [store_Many.l0]
    rw [if_pos (by omega), if_pos (by omega), if_pos (by omega), hx, hw, wrap_succ hj hs]
theorem many_ev (l : List Se) (hs : l.length < 4611686018427387904) (hm : many l < 4611686018427387904) : Lab.Ev (fun k => store_Many.f k l) ((many l : Nat) : Int) := by
  have := many_l0 l hs l 0 0 rfl (by omega)
  rwa [Nat.zero_add] at this
theorem ptsame_l0 (l : List Pt) (hs : l.length ≤ 9223372036854775807) (d : Nat) : ∀ j : Nat, j + d = l.length → Lab.Ev (fun k => soundingsref05_Points.l0 k l l (j : Int)) true := by
  induction d with
  | zero =>
    intro j hj
    refine Lab.Ev.done fun k => ?_
    simp only [soundingsref05_Points.l0]
    rw [if_neg (by omega)]
  | succ d ih =>
    intro j hj
    refine (ih (j + 1) (by omega)).step fun k => ?_
    simp only [soundingsref05_Points.l0]
    rw [if_pos (by omega), if_pos (by omega), if_pos (by omega), if_neg (by simp), wrap_succ2 (n := l.length) (by omega) hs]
theorem same_l0 (l : List Se) (hs : SmallS l) (d : Nat) : ∀ j : Nat, j + d = l.length → Lab.Ev (fun k => soundingsref05_Same.l0 k l l (j : Int)) true := by
  induction d with
  | zero =>
    intro j hj
    refine Lab.Ev.done fun k => ?_
    simp only [soundingsref05_Same.l0]
    rw [if_neg (by omega)]
  | succ d ih =>
    intro j hj
    have hjl : j < l.length := by omega
    obtain ⟨z1, z2⟩ := hs.2 l[j] (List.getElem_mem _)
    obtain ⟨K1, r1⟩ := refcmp_ev l[j].f0 l[j].f0 (by omega)
    obtain ⟨K2, r2⟩ := ptsame_l0 l[j].f1 z2 l[j].f1.length 0 (by omega)
    obtain ⟨K3, r3⟩ := ih (j + 1) (by omega)
    refine ⟨K1 + K2 + K3 + 1, fun k hk => ?_⟩
    obtain ⟨k, rfl⟩ : ∃ m, k = m + 1 := ⟨k - 1, by omega⟩
    show soundingsref05_Same.l0 (k + 1) l l (j : Int) = _
    simp only [soundingsref05_Same.l0]
    rw [if_pos (by omega), if_pos (by omega), if_pos (by omega), se_rd l j hjl, show soundingsref01_Cmp.f k l[j].f0 l[j].f0 = some (cmpLs ordL l[j].f0 l[j].f0) from r1 k (by omega), (show cmpLs ordL l[j].f0 l[j].f0 = 0 from ord_c.refl _)]
    simp only [Option.bind_some, if_true]
    have hpt : soundingsref05_Points.f k l[j].f1 l[j].f1 = some true := by
      unfold soundingsref05_Points.f; rw [if_pos rfl]; exact r2 k (by omega)
    rw [hpt]
    simp only [Option.bind_some, if_true]
    rw [wrap_succ hjl hs.1]
    exact r3 k (by omega)
theorem same_ev (l : List Se) (hs : SmallS l) : Lab.Ev (fun k => soundingsref05_Same.f k l l) true := by
  obtain ⟨K, h⟩ := same_l0 l hs l.length 0 (by omega)
  exact ⟨K, fun k hk => by show soundingsref05_Same.f k l l = _; unfold soundingsref05_Same.f; rw [if_pos rfl]; exact h k hk⟩
/-! ### short -/
theorem tame_l0 (l : List Lb) (hl : l.length ≤ 9223372036854775807) (d : Nat) : ∀ j : Nat, j + d = l.length → ∃ b, Lab.Ev (fun k => soundingsref01_Tame.l0 k l (j : Int)) b ∧ (b = true → shortB l = true) := by
  induction d with
  | zero =>
    intro j hj
    refine ⟨shortB l, (Lab.Ev.ask (g := fun t _ => some t) (short_ev l hl) Lab.Ev.const (fun k => ?_) (fun _ => rfl)), id⟩
    simp only [soundingsref01_Tame.l0]
    rw [if_neg (by omega)]
  | succ d ih =>
    intro j hj
    obtain ⟨b, h1, h2⟩ := ih (j + 1) (by omega)
    by_cases c : (((rd_T67 l (j : Int)).f1).size : Int) > 60
    · refine ⟨false, Lab.Ev.done fun k => ?_, fun h => by cases h⟩
      simp only [soundingsref01_Tame.l0]
      rw [if_pos (by omega), if_pos (by omega), if_pos c]
    · refine ⟨b, h1.step fun k => ?_, h2⟩
      simp only [soundingsref01_Tame.l0]
      rw [if_pos (by omega), if_pos (by omega), if_neg c, wrap_succ2 (n := l.length) (by omega) hl]
theorem tame_ev (l : List Lb) (hl : l.length ≤ 9223372036854775807) : ∃ b, Lab.Ev (fun k => soundingsref01_Tame.f k l) b ∧ (b = true → shortB l = true) := tame_l0 l hl l.length 0 (by omega)
theorem short_st (l : List Se) (hs : l.length ≤ 9223372036854775807) (hz : ∀ x ∈ l, x.f0.length ≤ 9223372036854775807) (r : List Se) : ∀ (j : Nat) (n : Int), l.drop j = r → ∃ b, Lab.Ev (fun k => soundingsref05_Short.l0 k l n (j : Int)) b ∧
    (b = true → n ≤ 400 ∧ (∀ x ∈ r, shortB x.f0 = true) ∧ (0 ≤ n → (∀ x ∈ r, x.f1.length ≤ 4611686018427387904) → n + many r ≤ 400)) := by
  induction r with
  | nil =>
    intro j n h
    have hj := List.drop_eq_nil_iff.1 h
    refine ⟨decide (n ≤ 400), ⟨2, fun k hk => ?_⟩, fun hb => ⟨of_decide_eq_true hb, by simp, fun _ _ => by have := of_decide_eq_true hb; simp [many]; omega⟩⟩
    obtain ⟨k, rfl⟩ : ∃ m, k = m + 2 := ⟨k - 2, by omega⟩
    show soundingsref05_Short.l0 (k + 1 + 1) l n (j : Int) = _
    simp only [soundingsref05_Short.l0]
    rw [if_neg (by omega)]
    simp only [soundingsref05_Short.j1]
    rw [if_neg (by decide)]
  | cons x r ih =>
    intro j n h
    have hj : j < l.length := by
      rcases Nat.lt_or_ge j l.length with h1 | h1
      · exact h1
      · rw [List.drop_eq_nil_of_le h1] at h; cases h
    have he := List.drop_eq_getElem_cons hj
    rw [h] at he
    have hx : rd_T59 l (j : Int) = x := by rw [se_rd l j hj]; exact (List.cons.inj he).1.symm
    have hxm : x ∈ l := by rw [(List.cons.inj he).1]; exact List.getElem_mem _
    by_cases c : n ≤ 400
    · obtain ⟨b, ⟨K1, h1⟩, h2⟩ := tame_ev x.f0 (hz x hxm)
      obtain ⟨b2, ⟨K2, h3⟩, h4⟩ := ih (j + 1) (wrap64 (n + (x.f1.length : Int))) (List.cons.inj he).2.symm
      refine ⟨b && b2, ⟨K1 + K2 + 2, fun k hk => ?_⟩, fun hb => ?_⟩
      · obtain ⟨k, rfl⟩ : ∃ m, k = m + 2 := ⟨k - 2, by omega⟩
        show soundingsref05_Short.l0 (k + 1 + 1) l n (j : Int) = _
        simp only [soundingsref05_Short.l0]
        rw [if_pos (by omega)]
        simp only [soundingsref05_Short.j1]
        rw [if_pos (decide_eq_true c), if_pos (by omega), if_pos (by omega), hx, show soundingsref01_Tame.f k x.f0 = some b from h1 k (by omega)]
        simp only [Option.bind_some]
        cases b with
        | false => rw [if_neg (by decide)]; rfl
        | true =>
          rw [if_pos rfl, wrap_succ2 hj hs, Bool.true_and]
          exact h3 k (by omega)
      · rw [Bool.and_eq_true] at hb
        obtain ⟨_, g1, g2⟩ := h4 hb.2
        refine ⟨c, fun y hy => ?_, fun hn hl => ?_⟩
        · rcases List.mem_cons.1 hy with rfl | hy
          · exact h2 hb.1
          · exact g1 y hy
        · have hxl := hl x (by simp)
          have hw : wrap64 (n + (x.f1.length : Int)) = n + (x.f1.length : Int) := by unfold wrap64; omega
          rw [hw] at g2
          have := g2 (by omega) (fun y hy => hl y (List.mem_cons_of_mem _ hy))
          have hm : many (x :: r) = x.f1.length + many r := by simp [many]
          rw [hm]; omega
    · refine ⟨false, ⟨2, fun k hk => ?_⟩, fun hb => by cases hb⟩
      obtain ⟨k, rfl⟩ : ∃ m, k = m + 2 := ⟨k - 2, by omega⟩
      show soundingsref05_Short.l0 (k + 1 + 1) l n (j : Int) = _
      simp only [soundingsref05_Short.l0]
      rw [if_pos (by omega)]
      simp only [soundingsref05_Short.j1]
      rw [if_neg (by simpa using c)]
      exact congrArg some (decide_eq_false (by omega))
/-- Points that rise within the times that may be are not that many. -/
theorem rise_many (l : List Pt) (a b : Int) (h : Rises l) (ha : ∀ p ∈ l, a ≤ p.f0 ∧ p.f0 ≤ b) (hab : a ≤ b + 1) : (l.length : Int) ≤ b - a + 1 := by
  induction l generalizing a with
  | nil => simp; omega
  | cons x r ih =>
    unfold Rises at h
    obtain ⟨h1, h2⟩ := List.pairwise_cons.1 h
    have hx := ha x (by simp)
    have := ih (x.f0 + 1) h2 (fun p hp => ⟨by have := h1 p hp; omega, (ha p (List.mem_cons_of_mem _ hp)).2⟩) (by omega)
    rw [List.length_cons]
    omega
theorem short_ev5 (l : List Se) (hs : l.length ≤ 9223372036854775807) (hz : ∀ x ∈ l, x.f0.length ≤ 9223372036854775807) : ∃ b, Lab.Ev (fun k => soundingsref05_Short.f k l) b ∧
    (b = true → l.length ≤ 400 ∧ (∀ x ∈ l, shortB x.f0 = true) ∧ (StOk l → l.length ≤ 400 ∧ many l ≤ 400)) := by
  obtain ⟨b, h1, h2⟩ := short_st l hs hz l 0 (l.length : Int) rfl
  refine ⟨b, h1, fun hb => ⟨by have := (h2 hb).1; omega, (h2 hb).2.1, fun hok => ?_⟩⟩
  have := (h2 hb).2.2 (by omega) (fun x hx => by
    have hp := (hok.1 x hx).2.2
    have := rise_many x.f1 (-1125899906842624) 1125899906842624 hp.2.2 (fun p hp2 => by
      have := hp.2.1 p hp2
      unfold ptB at this
      rw [Bool.and_eq_true] at this
      exact (timeB_iff _).1 this.1) (by omega)
    omega)
  omega
theorem many_mem {l : List Se} {x : Se} (h : x ∈ l) : x.f1.length ≤ many l := by
  induction l with
  | nil => cases h
  | cons y r ih =>
    have hm : many (y :: r) = y.f1.length + many r := by simp [many]
    rcases List.mem_cons.1 h with rfl | h
    · omega
    · have := ih h; omega
end Go.Proofs.YtlelcmkbcejjkaaDoor.L
namespace Go.Proofs.YtlelcmkbcejjkaaDoor.L
open Go.Proofs Go.Proofs.YtlelcmkbcejjkaaDoor.Two Go.Proofs.YtlelcmkbcejjkaaDoor.Lab Go.Proofs.YtlelcmkbcejjkaaDoor.Sto
open Go.RowKit Go.Proofs.YtlelcmkbcejjkaaDoorW.PrintWords Go.Proofs.YtlelcmkbcejjkaaDoorW.PrintLast Go.Proofs.YtlelcmkbcejjkaaDoorW.PrintMore
set_option linter.unusedVariables false
set_option linter.unusedSimpArgs false
theorem app_inv {s : List Se} {l : List Lb} {t v : Int} {o : List Se} (h : app s l t v = (o, none)) : ∃ m, mkL mayB l = (m, none) ∧ m ≠ [] ∧ rightB mayB m = true ∧ timeB t = true ∧ put m ⟨t, normV v⟩ s = some o ∧ StOk s := by
  by_cases hok : StOk s
  · rw [app_ok hok] at h
    rcases mk_cases (may := mayB) l with ⟨m, e, _, _, _, _, hr⟩ | ⟨e, _⟩
    · rw [e] at h ⊢
      simp only [appR] at h
      by_cases hm : m = []
      · rw [if_pos hm] at h; simp at h
      · rw [if_neg hm] at h
        unfold appT at h
        by_cases ht : timeB t = true
        · rw [if_pos ht] at h
          unfold appP at h
          cases hp : put m ⟨t, normV v⟩ s with
          | none => rw [hp] at h; simp at h
          | some q => rw [hp] at h; simp only [Prod.mk.injEq, and_true] at h; exact ⟨m, rfl, hm, hr, ht, by rw [hp, h], hok⟩
        · rw [if_neg ht] at h; simp at h
    · rw [e] at h; simp [appR] at h
  · unfold app at h; rw [if_neg hok] at h; simp at h
theorem app_err {s : List Se} {l : List Lb} {t v : Int} {o : List Se} {c : Int} (h : app s l t v = (o, some c)) : o = [] := by
  by_cases hok : StOk s
  · rw [app_ok hok] at h
    cases hr : (mkL mayB l).2 with
    | some e => rw [hr] at h; simp only [appR, Prod.mk.injEq] at h; exact h.1.symm
    | none =>
      rw [hr] at h
      simp only [appR] at h
      split at h
      · simp only [Prod.mk.injEq] at h; exact h.1.symm
      · unfold appT at h
        split at h
        · unfold appP at h
          split at h
          · simp at h
          · simp only [Prod.mk.injEq] at h; exact h.1.symm
        · simp only [Prod.mk.injEq] at h; exact h.1.symm
  · unfold app at h; rw [if_neg hok] at h; simp only [Prod.mk.injEq] at h; exact h.1.symm
theorem app_yes {s : List Se} {l m : List Lb} {t v : Int} {o : List Se} (hok : StOk s) (hm : mkL mayB l = (m, none)) (h0 : m ≠ []) (ht : timeB t = true) (hp : put m ⟨t, normV v⟩ s = some o) : app s l t v = (o, none) := by
  rw [app_ok hok, hm]
  simp only [appR]
  rw [if_neg h0]
  unfold appT appP
  rw [if_pos ht, hp]
theorem app_late {s : List Se} {l m : List Lb} {t v : Int} (hok : StOk s) (hm : mkL mayB l = (m, none)) (h0 : m ≠ []) (ht : timeB t = true) (hp : put m ⟨t, normV v⟩ s = none) : app s l t v = ([], some 3) := by
  rw [app_ok hok, hm]
  simp only [appR]
  rw [if_neg h0]
  unfold appT appP
  rw [if_pos ht, hp]
theorem app_time {s : List Se} {l m : List Lb} {t v : Int} (hok : StOk s) (hm : mkL mayB l = (m, none)) (h0 : m ≠ []) (ht : ¬ timeB t = true) : app s l t v = ([], some 4) := by
  rw [app_ok hok, hm]
  simp only [appR]
  rw [if_neg h0]
  unfold appT
  rw [if_neg ht]
theorem ptB_norm {t : Int} (v : Int) (h : timeB t = true) : ptB ⟨t, normV v⟩ = true := by
  unfold ptB
  rw [h, Bool.true_and]
  exact decide_eq_true (norm_norm v)
/-- A store that is right, and not too much. -/
structure Fine (s : List Se) (n : Nat) : Prop where
  ok : StOk s
  len : s.length ≤ n
  many : Sto.many s ≤ n
theorem Fine.small {s : List Se} {n : Nat} (h : Fine s n) (hn : n ≤ 1000) : SmallS s :=
  ⟨by have := h.len; omega, fun x hx => by
    have h1 := ((rightB_iff x.f0).1 (h.ok.1 x hx).2.1).2.2
    have h2 := many_mem hx
    have h3 := h.many
    omega⟩
theorem Fine.app {s : List Se} {n : Nat} (h : Fine s n) {l : List Lb} {t v : Int} {o : List Se} (ha : app s l t v = (o, none)) : Fine o (n + 1) := by
  obtain ⟨m, _, h1, h2, h3, h4, _⟩ := app_inv ha
  refine ⟨put_ok m _ h1 h2 (ptB_norm v h3) s h.ok o h4, ?_, ?_⟩
  · have := (put_len m _ s o h4).1; have := h.len; omega
  · have := put_many m _ s o h4; have := h.many; omega
/-- Append, called on a fine store. -/
theorem fine_calls {s : List Se} {n : Nat} (h : Fine s n) (hn : n ≤ 1000) (A : Option Addr) (c : Nat) (A1 : Option Addr) (c1 : Nat) (l : List Lb) (t v : Int) (w : World) (hlz : l.length ≤ 1000) (hC : Kd.C k59 w A s.length s) (hc : s.length ≤ c) (hC1 : Kd.C k67 w A1 l.length l) (hc1 : l.length ≤ c1) (hG : GL w) :
    Calls Tryd.prog 18 #[.slice A s.length c, .slice A1 l.length c1, .agg #[.int .i64 t, .int .u64 v]] w (AppPost w (app s l t v)) :=
  app_calls A c s A1 c1 l t v w (st_ev s (h.small hn)).some (fun _ => ⟨by have := h.len; omega, fun x hx => by have := many_mem hx; have := h.many; omega⟩) hlz hC hc hC1 hc1 hG
theorem fine_nil : Fine [] 0 := ⟨⟨by simp, List.Pairwise.nil⟩, Nat.le_refl _, Nat.le_refl _⟩
/-! ### awake -/
def la1 : Lb := ⟨⟨#[97]⟩, ⟨#[49]⟩⟩
theorem mk_la1 : mkL mayB [la1] = ([la1], none) := mk_right (by decide +kernel)
theorem aw1 : app [] [la1] 5 7 = ([⟨[la1], [⟨5, 7⟩]⟩], none) := app_yes fine_nil.ok mk_la1 (by simp) (by decide) (by
  show some [(⟨[la1], [⟨5, normV 7⟩]⟩ : Se)] = _
  rw [show normV 7 = 7 from by decide])
theorem aw2 : app [⟨[la1], [⟨5, 7⟩]⟩] [la1] 5 0 = ([], some 3) := app_late (fine_nil.app aw1).ok mk_la1 (by simp) (by decide) (by
  rw [put_eq (x := (⟨[la1], [⟨5, 7⟩]⟩ : Se)) (r := []) (ord_c.refl _), if_pos (by decide)])
theorem C_lab (w : World) (b : Nat) (x : Lb) (h0 : w.cell? ⟨b, 0, none⟩ = some (.string x.f0)) (h1 : w.cell? ⟨b, 1, none⟩ = some (.string x.f1)) :
    Kd.C k67 w (some ⟨b, 0, none⟩) [x].length [x] := by
  refine ⟨rfl, by simp, fun _ => ⟨_, rfl, fun j p hj => ?_⟩⟩
  match j, hj with
  | 0, hj =>
    obtain rfl := Option.some.inj hj
    refine ⟨_, rfl, k67_mk w x, fun i u hu => ?_⟩
    match i, hu with
    | 0, hu => obtain rfl := Option.some.inj hu; exact h0
    | 1, hu => obtain rfl := Option.some.inj hu; exact h1
set_option maxHeartbeats 4000000 in
theorem st_awake (W : World) (hG : GL W) : Calls Tryd.prog 13 #[] W fun e w' => e = .returned (.bool true) ∧ RowKit.Below W.heap.size W w' := by
  have HG := Aside0.mk hG
  clear hG
  go_enter Tryd.func13, Tryd.ntmps13
  go_wp2_with fail
  have hb0 : RowKit.Below W.heap.size W (W.alloc (.cells #[.string ⟨#[97]⟩, .string ⟨#[49]⟩] 67)) := below_alloc (RowKit.Below.refl _ _) _
  have hl0 : Kd.C k67 (W.alloc (.cells #[.string ⟨#[97]⟩, .string ⟨#[49]⟩] 67)) (some ⟨W.heap.size, 0, none⟩) [la1].length [la1] := C_lab _ _ la1 (by simp; rfl) (by simp; rfl)
  have h1 := fine_calls fine_nil (by decide) none 0 (some ⟨W.heap.size, 0, none⟩) 1 [la1] 5 7 _ (by decide) (Kd.C_nil _ _) (Nat.le_refl _) hl0 (by decide) (HG.out.below hb0)
  rw [aw1] at h1
  have h1 : Calls Tryd.prog 18 #[.slice none 0 0, .slice (some ⟨W.heap.size, 0, none⟩) 1 1, .agg #[.int .i64 5, .int .u64 7]] (W.alloc (.cells #[.string ⟨#[97]⟩, .string ⟨#[49]⟩] 67)) (fun e w' => ∃ A' c', e = .returned (.tuple #[.slice A' 1 c', .nilIface]) ∧ 1 ≤ c' ∧ Kd.C k59 w' A' 1 [⟨[la1], [⟨5, 7⟩]⟩] ∧ RowKit.Below (W.alloc (.cells #[.string ⟨#[97]⟩, .string ⟨#[49]⟩] 67)).heap.size (W.alloc (.cells #[.string ⟨#[97]⟩, .string ⟨#[49]⟩] 67)) w') := h1
  refine h1.mono ?_
  rintro e w1 ⟨A', c', rfl, hc1, hC1, hb1⟩
  have HB1 : Aside0 (RowKit.Below W.heap.size W w1) := ⟨below_then hb0 (by simp) hb1⟩
  have HC1 := Aside0.mk hC1
  have HL1 : Aside0 (Kd.C k67 w1 (some ⟨W.heap.size, 0, none⟩) [la1].length [la1]) := ⟨Kd.C_below hl0 hb1⟩
  clear h1 hb0 hl0 hb1 hC1
  have h2 := fine_calls (fine_nil.app aw1) (by decide) A' c' (some ⟨W.heap.size, 0, none⟩) 1 [la1] 5 0 w1 (by decide) HC1.out hc1 HL1.out (by decide) (HG.out.below HB1.out)
  rw [aw2] at h2
  have h2 : Calls Tryd.prog 18 #[.slice A' 1 c', .slice (some ⟨W.heap.size, 0, none⟩) 1 1, .agg #[.int .i64 5, .int .u64 0]] w1 (fun e w' => ∃ A2 c2, e = .returned (.tuple #[.slice A2 0 c2, .iface 75 (.int .i64 3)]) ∧ 0 ≤ c2 ∧ Kd.C k59 w' A2 0 [] ∧ RowKit.Below w1.heap.size w1 w') := h2
  have H2 := Aside0.mk h2
  clear h2
  go_wp2_with fail
  refine H2.out.mono ?_
  rintro e w2 ⟨A2, c2, rfl, hc2, hC2, hb2⟩
  have HB2 : Aside0 (RowKit.Below W.heap.size W w2) := ⟨below_then HB1.out HB1.out.size hb2⟩
  obtain ⟨ad, A0, c0, A1, c1, rfl, y0, y1, g1, g2, g3, g4⟩ := at_T59 (Kd.C_below HC1.out hb2) 0 (by decide) (by decide)
  rw [show ad.add (Int.toNat 0 * 2) = ad by simp [Addr.add]] at y0 y1
  change w2.cell? ad = some (.slice A0 1 c0) at y0
  change w2.cell? ⟨ad.block, ad.off + 1, none⟩ = some (.slice A1 1 c1) at y1
  obtain ⟨ad2, rfl, z0, z1⟩ := at_T40 g4 0 (by decide) (by decide)
  rw [show ad2.add (Int.toNat 0 * 2) = ad2 by simp [Addr.add]] at z0 z1
  change w2.cell? ad2 = some (.int .i64 5) at z0
  change w2.cell? ⟨ad2.block, ad2.off + 1, none⟩ = some (.int .u64 7) at z1
  have HCD := Aside0.mk (soundingslaw01_Code.calls (some 3) 3 w2 (HG.out.below HB2.out) rfl)
  clear hb2 hC2 g1 g2 g3 g4
  go_wp2_with (go_at_call 12; refine HCD.out.mono ?_; rintro e w3 ⟨rfl, hb3⟩; have HB3 : Aside0 (RowKit.Below W.heap.size W w3) := ⟨below_then HB2.out HB2.out.size hb3⟩; clear hb3)
  go_ret
  exact ⟨rfl, HB3.out⟩
end Go.Proofs.YtlelcmkbcejjkaaDoor.L
