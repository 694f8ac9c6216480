/- The contract of span.Parse. -/
import Derived.Test.YtmgbnnanophehaaDoorSpanW
import Derived.Test.YtmgbnnanophehaaDoorProg
import Derived.Test.YtmgbnnanophehaaDoorWWords
import Derived.Test.YtmgbnnanophehaaDoorWLast
import Derived.Test.YtmgbnnanophehaaDoorShelf
import Derived.WalkKit
import Derived.Laws.EntriesVeiled
import Derived.Lib.Hide
import Derived.Deep.LoopGhost
import Derived.BigQuiet
import Derived.WalkMore
import Derived.OwnWalk
import Derived.Deep.QuietTactic
namespace Go.Proofs.YtmgbnnanophehaaDoor.Span
open Go.Proofs Go.RowKit Go.Proofs.YtmgbnnanophehaaDoorW.PrintWords Go.Proofs.YtmgbnnanophehaaDoorW.PrintLast
set_option linter.unusedVariables false
set_option linter.unusedSimpArgs false

def errS : Option Int → Value
  | none => .nilIface
  | some c => .iface 53 (.int .i64 c)
theorem parL_nil (f : Nat) (sum next : Int) : parL (f + 1) sum next [] = (sum, none) := by simp [parL]
theorem parL_bad (f : Nat) (sum next : Int) (l : List UInt8) (hl : l ≠ []) (h : (numL 0 0 l).2.2 = false ∨ (namedL (numL 0 0 l).2.1).1 < next ∨ (numL 0 0 l).1 > Int.tdiv (M - sum) (longU (namedL (numL 0 0 l).2.1).1)) : parL (f + 1) sum next l = (0, some 13) := by
  simp only [parL]; rw [if_neg hl, if_pos h]
theorem parL_go (f : Nat) (sum next : Int) (l : List UInt8) (hl : l ≠ []) (h : ¬ ((numL 0 0 l).2.2 = false ∨ (namedL (numL 0 0 l).2.1).1 < next ∨ (numL 0 0 l).1 > Int.tdiv (M - sum) (longU (namedL (numL 0 0 l).2.1).1))) :
    parL (f + 1) sum next l = parL f (sum + (numL 0 0 l).1 * longU (namedL (numL 0 0 l).2.1).1) ((namedL (numL 0 0 l).2.1).1 + 1) (namedL (numL 0 0 l).2.1).2 := by
  simp only [parL]; rw [if_neg hl, if_neg h]
set_option maxRecDepth 100000 in
set_option maxHeartbeats 4000000 in
theorem parse_calls (s : ByteArray) (w : World) (hU : UTab w) :
    Calls Tryd.prog 13 #[.string s] w fun e w' => e = .returned (.tuple #[.int .i64 (parseL s.data.toList).1, errS (parseL s.data.toList).2]) ∧ Below w.heap.size w w' := by
  obtain ⟨l, rfl⟩ : ∃ l, s = B l := ⟨s.data.toList, by simp [B]⟩
  rw [show (B l).data.toList = l by simp [B]]
  obtain ⟨R, hR⟩ : ∃ R, R = parseL l := ⟨_, rfl⟩
  rw [← hR]
  have HU := Aside0.mk hU
  clear hU
  by_cases h1 : l.length = 0 ∨ 200 < l.length
  · have HR : Aside0 (R = (0, some 13)) := ⟨by rw [hR]; unfold parseL; rw [if_pos h1]⟩
    clear hR
    by_cases h0 : l.length = 0
    · obtain rfl := List.length_eq_zero_iff.1 h0
      clear h0 h1
      go_enter Tryd.func13, Tryd.ntmps13
      go_wp2
      go_ret2
      exact ⟨by rw [HR.out]; rfl, Below.refl _ _⟩
    · have q0 : (l == []) = false := by simpa using fun h => h0 (by rw [h]; rfl)
      have q1 : (200 < (l.length : Int)) = True := eq_true (by omega)
      clear h0 h1
      go_enter Tryd.func13, Tryd.ntmps13
      go_wp2
      go_ret2
      exact ⟨by rw [HR.out]; rfl, Below.refl _ _⟩
  · have q0 : (l == []) = false := by simpa using fun h => h1 (Or.inl (by rw [h]; rfl))
    have q1 : (200 < (l.length : Int)) = False := eq_false (by omega)
    have HR : Aside0 (parL (l.length + 1) 0 0 l = R ∧ l.length ≤ 200) := ⟨by rw [hR]; unfold parseL; rw [if_neg h1], by omega⟩
    clear hR h1
    go_enter Tryd.func13, Tryd.ntmps13
    go_wp2
    go_loopg [0, 4, 5] l.length (fun g v0 v4 v5 wr => ∃ (l' : List UInt8) (sum next : Int), v0 = .string (B l') ∧ v4 = .int .i64 sum ∧ v5 = .int .i64 next ∧ g = l'.length ∧
      Aside0 (∃ f, parL f sum next l' = R ∧ l'.length < f ∧ l'.length ≤ 200 ∧ 0 ≤ sum ∧ sum ≤ M ∧ 0 ≤ next ∧ next ≤ 7) ∧ Aside0 (Below w.heap.size w wr))
    case atStart => exact ⟨l, 0, 0, rfl, rfl, rfl, rfl, ⟨l.length + 1, HR.out.1, by omega, HR.out.2, by omega, by decide, by omega, by omega⟩, ⟨Below.refl _ _⟩⟩
    case round =>
      clear q0 q1 HR
      obtain ⟨l', sum, next, rfl, rfl, rfl, rfl, I, HB⟩ := hrel
      by_cases hl : l' = []
      · subst hl
        have E : Aside0 (R = (sum, none)) := ⟨by obtain ⟨f, h, hf, _⟩ := I.out; obtain ⟨f, rfl⟩ : ∃ m, f = m + 1 := ⟨f - 1, by omega⟩; rw [← h, parL_nil]⟩
        go_wp2
        go_ret2
        exact ⟨by rw [E.out]; rfl, HB.out⟩
      · have q0 : (l' == []) = false := by simpa using hl
        have HL := Aside0.mk hl
        clear hl
        obtain ⟨⟨n, rest, ok⟩, hN⟩ : ∃ x, x = numL 0 0 l' := ⟨_, rfl⟩
        obtain ⟨⟨k, bh⟩, hK⟩ : ∃ x, x = namedL rest := ⟨_, rfl⟩
        have hX : Aside0 (∃ f, (if ok = false ∨ k < next ∨ Int.tdiv (35184372088832 - sum) (longU k) < n then (0, some 13) else parL f (sum + n * longU k) (k + 1) bh) = R ∧ (ok = true → bh.length < f ∧ bh.length < l'.length) ∧ l'.length ≤ 200 ∧ 0 ≤ sum ∧ sum ≤ 35184372088832 ∧ 0 ≤ next ∧ next ≤ 7 ∧ 0 ≤ n ∧ (ok = true → n ≤ 35184372088832) ∧ -1 ≤ k ∧ k ≤ 6) := by
          obtain ⟨f, h, hf, h2, h3, h4, h5, h6⟩ := I.out
          obtain ⟨f, rfl⟩ : ∃ m, f = m + 1 := ⟨f - 1, by omega⟩
          have p1 := numL_pos l' 0 0 (Int.le_refl _)
          have p2 := numL_len l' 0 0
          have p3 := namedL_rng rest
          rw [← hN] at p1 p2
          rw [← hK] at p3
          simp only at p1 p2 p3
          refine ⟨f, ?_, fun ho => ?_, h2, h3, h4, h5, h6, p1.1, p1.2, p3.1, p3.2.1⟩
          · rw [← h]
            simp only [parL]
            rw [if_neg HL.out, ← hN]
            simp only
            rw [← hK]
          · have := (p2 ho).2 trivial
            omega
        have hlt : l'.length < 4611686018427387904 := by have := hX.out; obtain ⟨f, _, _, h2, _⟩ := this; omega
        have hC1 : ∀ W, Calls Tryd.prog 24 #[.string (B l'), .int .i64 35184372088832] W fun e w' => e = .returned (.tuple #[.int .i64 n, .string (B rest), .bool ok]) ∧ Below W.heap.size W w' := fun W => by
          have := number_calls (B l') hlt W
          rw [show (B l').data.toList = l' by simp [B], ← hN] at this
          exact this
        have hC2 : ∀ W, UTab W → Calls Tryd.prog 25 #[.string (B rest)] W fun e w' => e = .returned (.tuple #[.int .i64 k, .string (B bh)]) ∧ Below W.heap.size W w' := fun W hW => by
          have := named_calls (B rest) (by have h := numL_le l' 0 0; rw [← hN] at h; exact Nat.lt_of_le_of_lt h hlt) W hW
          rw [show (B rest).data.toList = rest by simp [B], ← hK] at this
          exact this
        have C1 := Aside0.mk hC1
        have C2 := Aside0.mk hC2
        clear hC1 hC2 hlt hN hK I
        cases ok with
        | false =>
          have E : Aside0 (R = (0, some 13)) := ⟨by obtain ⟨f, h, _⟩ := hX.out; rw [← h, if_pos (Or.inl rfl)]⟩
          go_wp2_with (go_at_call 24; refine (C1.out wr).mono ?_; rintro e w1 ⟨rfl, hB1⟩)
          go_wp2_with (go_at_call 25; refine (C2.out w1 (UTab.below (UTab.below HU.out HB.out) hB1)).mono ?_; rintro e w2 ⟨rfl, hB2⟩)
          go_ret2
          exact ⟨by rw [E.out]; rfl, below_then (below_then HB.out HB.out.size hB1) (Nat.le_trans HB.out.size hB1.size) hB2⟩
        | true =>
          by_cases hk : k < next
          · have E : Aside0 (R = (0, some 13)) := ⟨by obtain ⟨f, h, _⟩ := hX.out; rw [← h, if_pos (Or.inr (Or.inl hk))]⟩
            have d1 : (k < next) = True := eq_true hk
            clear hk
            go_wp2_with (go_at_call 24; refine (C1.out wr).mono ?_; rintro e w1 ⟨rfl, hB1⟩)
            go_wp2_with (go_at_call 25; refine (C2.out w1 (UTab.below (UTab.below HU.out HB.out) hB1)).mono ?_; rintro e w2 ⟨rfl, hB2⟩)
            go_ret2
            exact ⟨by rw [E.out]; rfl, below_then (below_then HB.out HB.out.size hB1) (Nat.le_trans HB.out.size hB1.size) hB2⟩
          · have hk1 : 0 ≤ k ∧ k ≤ 6 := by obtain ⟨f, _, _, _, _, _, h1, _, _, _, _, h2⟩ := hX.out; omega
            have d1 : (k < next) = False := eq_false hk
            have hcases : k = 0 ∨ k = 1 ∨ k = 2 ∨ k = 3 ∨ k = 4 ∨ k = 5 ∨ k = 6 := by omega
            clear hk hk1
            have w1 : wrap64 (35184372088832 - sum) = 35184372088832 - sum := by obtain ⟨f, _, _, _, h1, h2, _⟩ := hX.out; unfold wrap64; omega
            rcases hcases with rfl | rfl | rfl | rfl | rfl | rfl | rfl
            · have w3 : wrap64 ((35184372088832 - sum).tdiv 31536000000) = (35184372088832 - sum).tdiv 31536000000 := by obtain ⟨f, _, _, _, h1, h2, _⟩ := hX.out; rw [Int.tdiv_eq_ediv_of_nonneg (by omega)]; unfold wrap64; omega
              by_cases hn : (35184372088832 - sum).tdiv 31536000000 < n
              · have E : Aside0 (R = (0, some 13)) := ⟨by obtain ⟨f, h, _⟩ := hX.out; rw [show longU 0 = 31536000000 from rfl] at h; rw [← h, if_pos (Or.inr (Or.inr hn))]⟩
                have d2 : ((35184372088832 - sum).tdiv 31536000000 < n) = True := eq_true hn
                clear hn
                go_wp2_with (go_at_call 24; refine (C1.out wr).mono ?_; rintro e w1 ⟨rfl, hB1⟩)
                go_wp2_with (go_at_call 25; refine (C2.out w1 (UTab.below (UTab.below HU.out HB.out) hB1)).mono ?_; rintro e w2 ⟨rfl, hB2⟩; obtain ⟨c0, c1, c2, c3, c4, c5, c6, c7, c8, c9, c10, c11, c12, c13⟩ := UTab.below (UTab.below (UTab.below HU.out HB.out) hB1) hB2)
                go_ret2
                exact ⟨by rw [E.out]; rfl, below_then (below_then HB.out HB.out.size hB1) (Nat.le_trans HB.out.size hB1.size) hB2⟩
              · have d2 : ((35184372088832 - sum).tdiv 31536000000 < n) = False := eq_false hn
                have X : Aside0 (wrap64 (sum + wrap64 (n * 31536000000)) = sum + n * 31536000000 ∧ bh.length < l'.length ∧ ∃ f, parL f (sum + n * 31536000000) 1 bh = R ∧ bh.length < f ∧ bh.length ≤ 200 ∧ 0 ≤ sum + n * 31536000000 ∧ sum + n * 31536000000 ≤ 35184372088832) := by
                  obtain ⟨f, h, hb, h2, s0, s1, _, _, n0, n1, _, _⟩ := hX.out
                  rw [show longU 0 = 31536000000 from rfl, if_neg (fun h => h.elim (fun h => absurd h (by decide)) (fun h => h.elim (fun h => absurd h (of_eq_false d1)) hn))] at h
                  have hb := hb rfl
                  have n1 := n1 rfl
                  rw [Int.tdiv_eq_ediv_of_nonneg (by omega)] at hn
                  exact ⟨by unfold wrap64; omega, hb.2, f, h, hb.1, by omega, by omega, by omega⟩
                clear hn
                go_wp2_with (go_at_call 24; refine (C1.out wr).mono ?_; rintro e w1 ⟨rfl, hB1⟩)
                go_wp2_with (go_at_call 25; refine (C2.out w1 (UTab.below (UTab.below HU.out HB.out) hB1)).mono ?_; rintro e w2 ⟨rfl, hB2⟩; obtain ⟨c0, c1, c2, c3, c4, c5, c6, c7, c8, c9, c10, c11, c12, c13⟩ := UTab.below (UTab.below (UTab.below HU.out HB.out) hB1) hB2)
                go_roundg bh.length
                case measure => exact X.out.2.1
                case rel =>
                  obtain ⟨e1, _, f, e2, e3, e4, e5, e6⟩ := X.out
                  exact ⟨bh, sum + n * 31536000000, 1, rfl, by rw [e1], rfl, rfl, ⟨f, e2, e3, e4, e5, e6, by omega, by omega⟩, ⟨below_then (below_then HB.out HB.out.size hB1) (Nat.le_trans HB.out.size hB1.size) hB2⟩⟩
            · have w3 : wrap64 ((35184372088832 - sum).tdiv 604800000) = (35184372088832 - sum).tdiv 604800000 := by obtain ⟨f, _, _, _, h1, h2, _⟩ := hX.out; rw [Int.tdiv_eq_ediv_of_nonneg (by omega)]; unfold wrap64; omega
              by_cases hn : (35184372088832 - sum).tdiv 604800000 < n
              · have E : Aside0 (R = (0, some 13)) := ⟨by obtain ⟨f, h, _⟩ := hX.out; rw [show longU 1 = 604800000 from rfl] at h; rw [← h, if_pos (Or.inr (Or.inr hn))]⟩
                have d2 : ((35184372088832 - sum).tdiv 604800000 < n) = True := eq_true hn
                clear hn
                go_wp2_with (go_at_call 24; refine (C1.out wr).mono ?_; rintro e w1 ⟨rfl, hB1⟩)
                go_wp2_with (go_at_call 25; refine (C2.out w1 (UTab.below (UTab.below HU.out HB.out) hB1)).mono ?_; rintro e w2 ⟨rfl, hB2⟩; obtain ⟨c0, c1, c2, c3, c4, c5, c6, c7, c8, c9, c10, c11, c12, c13⟩ := UTab.below (UTab.below (UTab.below HU.out HB.out) hB1) hB2)
                go_ret2
                exact ⟨by rw [E.out]; rfl, below_then (below_then HB.out HB.out.size hB1) (Nat.le_trans HB.out.size hB1.size) hB2⟩
              · have d2 : ((35184372088832 - sum).tdiv 604800000 < n) = False := eq_false hn
                have X : Aside0 (wrap64 (sum + wrap64 (n * 604800000)) = sum + n * 604800000 ∧ bh.length < l'.length ∧ ∃ f, parL f (sum + n * 604800000) 2 bh = R ∧ bh.length < f ∧ bh.length ≤ 200 ∧ 0 ≤ sum + n * 604800000 ∧ sum + n * 604800000 ≤ 35184372088832) := by
                  obtain ⟨f, h, hb, h2, s0, s1, _, _, n0, n1, _, _⟩ := hX.out
                  rw [show longU 1 = 604800000 from rfl, if_neg (fun h => h.elim (fun h => absurd h (by decide)) (fun h => h.elim (fun h => absurd h (of_eq_false d1)) hn))] at h
                  have hb := hb rfl
                  have n1 := n1 rfl
                  rw [Int.tdiv_eq_ediv_of_nonneg (by omega)] at hn
                  exact ⟨by unfold wrap64; omega, hb.2, f, h, hb.1, by omega, by omega, by omega⟩
                clear hn
                go_wp2_with (go_at_call 24; refine (C1.out wr).mono ?_; rintro e w1 ⟨rfl, hB1⟩)
                go_wp2_with (go_at_call 25; refine (C2.out w1 (UTab.below (UTab.below HU.out HB.out) hB1)).mono ?_; rintro e w2 ⟨rfl, hB2⟩; obtain ⟨c0, c1, c2, c3, c4, c5, c6, c7, c8, c9, c10, c11, c12, c13⟩ := UTab.below (UTab.below (UTab.below HU.out HB.out) hB1) hB2)
                go_roundg bh.length
                case measure => exact X.out.2.1
                case rel =>
                  obtain ⟨e1, _, f, e2, e3, e4, e5, e6⟩ := X.out
                  exact ⟨bh, sum + n * 604800000, 2, rfl, by rw [e1], rfl, rfl, ⟨f, e2, e3, e4, e5, e6, by omega, by omega⟩, ⟨below_then (below_then HB.out HB.out.size hB1) (Nat.le_trans HB.out.size hB1.size) hB2⟩⟩
            · have w3 : wrap64 ((35184372088832 - sum).tdiv 86400000) = (35184372088832 - sum).tdiv 86400000 := by obtain ⟨f, _, _, _, h1, h2, _⟩ := hX.out; rw [Int.tdiv_eq_ediv_of_nonneg (by omega)]; unfold wrap64; omega
              by_cases hn : (35184372088832 - sum).tdiv 86400000 < n
              · have E : Aside0 (R = (0, some 13)) := ⟨by obtain ⟨f, h, _⟩ := hX.out; rw [show longU 2 = 86400000 from rfl] at h; rw [← h, if_pos (Or.inr (Or.inr hn))]⟩
                have d2 : ((35184372088832 - sum).tdiv 86400000 < n) = True := eq_true hn
                clear hn
                go_wp2_with (go_at_call 24; refine (C1.out wr).mono ?_; rintro e w1 ⟨rfl, hB1⟩)
                go_wp2_with (go_at_call 25; refine (C2.out w1 (UTab.below (UTab.below HU.out HB.out) hB1)).mono ?_; rintro e w2 ⟨rfl, hB2⟩; obtain ⟨c0, c1, c2, c3, c4, c5, c6, c7, c8, c9, c10, c11, c12, c13⟩ := UTab.below (UTab.below (UTab.below HU.out HB.out) hB1) hB2)
                go_ret2
                exact ⟨by rw [E.out]; rfl, below_then (below_then HB.out HB.out.size hB1) (Nat.le_trans HB.out.size hB1.size) hB2⟩
              · have d2 : ((35184372088832 - sum).tdiv 86400000 < n) = False := eq_false hn
                have X : Aside0 (wrap64 (sum + wrap64 (n * 86400000)) = sum + n * 86400000 ∧ bh.length < l'.length ∧ ∃ f, parL f (sum + n * 86400000) 3 bh = R ∧ bh.length < f ∧ bh.length ≤ 200 ∧ 0 ≤ sum + n * 86400000 ∧ sum + n * 86400000 ≤ 35184372088832) := by
                  obtain ⟨f, h, hb, h2, s0, s1, _, _, n0, n1, _, _⟩ := hX.out
                  rw [show longU 2 = 86400000 from rfl, if_neg (fun h => h.elim (fun h => absurd h (by decide)) (fun h => h.elim (fun h => absurd h (of_eq_false d1)) hn))] at h
                  have hb := hb rfl
                  have n1 := n1 rfl
                  rw [Int.tdiv_eq_ediv_of_nonneg (by omega)] at hn
                  exact ⟨by unfold wrap64; omega, hb.2, f, h, hb.1, by omega, by omega, by omega⟩
                clear hn
                go_wp2_with (go_at_call 24; refine (C1.out wr).mono ?_; rintro e w1 ⟨rfl, hB1⟩)
                go_wp2_with (go_at_call 25; refine (C2.out w1 (UTab.below (UTab.below HU.out HB.out) hB1)).mono ?_; rintro e w2 ⟨rfl, hB2⟩; obtain ⟨c0, c1, c2, c3, c4, c5, c6, c7, c8, c9, c10, c11, c12, c13⟩ := UTab.below (UTab.below (UTab.below HU.out HB.out) hB1) hB2)
                go_roundg bh.length
                case measure => exact X.out.2.1
                case rel =>
                  obtain ⟨e1, _, f, e2, e3, e4, e5, e6⟩ := X.out
                  exact ⟨bh, sum + n * 86400000, 3, rfl, by rw [e1], rfl, rfl, ⟨f, e2, e3, e4, e5, e6, by omega, by omega⟩, ⟨below_then (below_then HB.out HB.out.size hB1) (Nat.le_trans HB.out.size hB1.size) hB2⟩⟩
            · have w3 : wrap64 ((35184372088832 - sum).tdiv 3600000) = (35184372088832 - sum).tdiv 3600000 := by obtain ⟨f, _, _, _, h1, h2, _⟩ := hX.out; rw [Int.tdiv_eq_ediv_of_nonneg (by omega)]; unfold wrap64; omega
              by_cases hn : (35184372088832 - sum).tdiv 3600000 < n
              · have E : Aside0 (R = (0, some 13)) := ⟨by obtain ⟨f, h, _⟩ := hX.out; rw [show longU 3 = 3600000 from rfl] at h; rw [← h, if_pos (Or.inr (Or.inr hn))]⟩
                have d2 : ((35184372088832 - sum).tdiv 3600000 < n) = True := eq_true hn
                clear hn
                go_wp2_with (go_at_call 24; refine (C1.out wr).mono ?_; rintro e w1 ⟨rfl, hB1⟩)
                go_wp2_with (go_at_call 25; refine (C2.out w1 (UTab.below (UTab.below HU.out HB.out) hB1)).mono ?_; rintro e w2 ⟨rfl, hB2⟩; obtain ⟨c0, c1, c2, c3, c4, c5, c6, c7, c8, c9, c10, c11, c12, c13⟩ := UTab.below (UTab.below (UTab.below HU.out HB.out) hB1) hB2)
                go_ret2
                exact ⟨by rw [E.out]; rfl, below_then (below_then HB.out HB.out.size hB1) (Nat.le_trans HB.out.size hB1.size) hB2⟩
              · have d2 : ((35184372088832 - sum).tdiv 3600000 < n) = False := eq_false hn
                have X : Aside0 (wrap64 (sum + wrap64 (n * 3600000)) = sum + n * 3600000 ∧ bh.length < l'.length ∧ ∃ f, parL f (sum + n * 3600000) 4 bh = R ∧ bh.length < f ∧ bh.length ≤ 200 ∧ 0 ≤ sum + n * 3600000 ∧ sum + n * 3600000 ≤ 35184372088832) := by
                  obtain ⟨f, h, hb, h2, s0, s1, _, _, n0, n1, _, _⟩ := hX.out
                  rw [show longU 3 = 3600000 from rfl, if_neg (fun h => h.elim (fun h => absurd h (by decide)) (fun h => h.elim (fun h => absurd h (of_eq_false d1)) hn))] at h
                  have hb := hb rfl
                  have n1 := n1 rfl
                  rw [Int.tdiv_eq_ediv_of_nonneg (by omega)] at hn
                  exact ⟨by unfold wrap64; omega, hb.2, f, h, hb.1, by omega, by omega, by omega⟩
                clear hn
                go_wp2_with (go_at_call 24; refine (C1.out wr).mono ?_; rintro e w1 ⟨rfl, hB1⟩)
                go_wp2_with (go_at_call 25; refine (C2.out w1 (UTab.below (UTab.below HU.out HB.out) hB1)).mono ?_; rintro e w2 ⟨rfl, hB2⟩; obtain ⟨c0, c1, c2, c3, c4, c5, c6, c7, c8, c9, c10, c11, c12, c13⟩ := UTab.below (UTab.below (UTab.below HU.out HB.out) hB1) hB2)
                go_roundg bh.length
                case measure => exact X.out.2.1
                case rel =>
                  obtain ⟨e1, _, f, e2, e3, e4, e5, e6⟩ := X.out
                  exact ⟨bh, sum + n * 3600000, 4, rfl, by rw [e1], rfl, rfl, ⟨f, e2, e3, e4, e5, e6, by omega, by omega⟩, ⟨below_then (below_then HB.out HB.out.size hB1) (Nat.le_trans HB.out.size hB1.size) hB2⟩⟩
            · have w3 : wrap64 ((35184372088832 - sum).tdiv 60000) = (35184372088832 - sum).tdiv 60000 := by obtain ⟨f, _, _, _, h1, h2, _⟩ := hX.out; rw [Int.tdiv_eq_ediv_of_nonneg (by omega)]; unfold wrap64; omega
              by_cases hn : (35184372088832 - sum).tdiv 60000 < n
              · have E : Aside0 (R = (0, some 13)) := ⟨by obtain ⟨f, h, _⟩ := hX.out; rw [show longU 4 = 60000 from rfl] at h; rw [← h, if_pos (Or.inr (Or.inr hn))]⟩
                have d2 : ((35184372088832 - sum).tdiv 60000 < n) = True := eq_true hn
                clear hn
                go_wp2_with (go_at_call 24; refine (C1.out wr).mono ?_; rintro e w1 ⟨rfl, hB1⟩)
                go_wp2_with (go_at_call 25; refine (C2.out w1 (UTab.below (UTab.below HU.out HB.out) hB1)).mono ?_; rintro e w2 ⟨rfl, hB2⟩; obtain ⟨c0, c1, c2, c3, c4, c5, c6, c7, c8, c9, c10, c11, c12, c13⟩ := UTab.below (UTab.below (UTab.below HU.out HB.out) hB1) hB2)
                go_ret2
                exact ⟨by rw [E.out]; rfl, below_then (below_then HB.out HB.out.size hB1) (Nat.le_trans HB.out.size hB1.size) hB2⟩
              · have d2 : ((35184372088832 - sum).tdiv 60000 < n) = False := eq_false hn
                have X : Aside0 (wrap64 (sum + wrap64 (n * 60000)) = sum + n * 60000 ∧ bh.length < l'.length ∧ ∃ f, parL f (sum + n * 60000) 5 bh = R ∧ bh.length < f ∧ bh.length ≤ 200 ∧ 0 ≤ sum + n * 60000 ∧ sum + n * 60000 ≤ 35184372088832) := by
                  obtain ⟨f, h, hb, h2, s0, s1, _, _, n0, n1, _, _⟩ := hX.out
                  rw [show longU 4 = 60000 from rfl, if_neg (fun h => h.elim (fun h => absurd h (by decide)) (fun h => h.elim (fun h => absurd h (of_eq_false d1)) hn))] at h
                  have hb := hb rfl
                  have n1 := n1 rfl
                  rw [Int.tdiv_eq_ediv_of_nonneg (by omega)] at hn
                  exact ⟨by unfold wrap64; omega, hb.2, f, h, hb.1, by omega, by omega, by omega⟩
                clear hn
                go_wp2_with (go_at_call 24; refine (C1.out wr).mono ?_; rintro e w1 ⟨rfl, hB1⟩)
                go_wp2_with (go_at_call 25; refine (C2.out w1 (UTab.below (UTab.below HU.out HB.out) hB1)).mono ?_; rintro e w2 ⟨rfl, hB2⟩; obtain ⟨c0, c1, c2, c3, c4, c5, c6, c7, c8, c9, c10, c11, c12, c13⟩ := UTab.below (UTab.below (UTab.below HU.out HB.out) hB1) hB2)
                go_roundg bh.length
                case measure => exact X.out.2.1
                case rel =>
                  obtain ⟨e1, _, f, e2, e3, e4, e5, e6⟩ := X.out
                  exact ⟨bh, sum + n * 60000, 5, rfl, by rw [e1], rfl, rfl, ⟨f, e2, e3, e4, e5, e6, by omega, by omega⟩, ⟨below_then (below_then HB.out HB.out.size hB1) (Nat.le_trans HB.out.size hB1.size) hB2⟩⟩
            · have w3 : wrap64 ((35184372088832 - sum).tdiv 1000) = (35184372088832 - sum).tdiv 1000 := by obtain ⟨f, _, _, _, h1, h2, _⟩ := hX.out; rw [Int.tdiv_eq_ediv_of_nonneg (by omega)]; unfold wrap64; omega
              by_cases hn : (35184372088832 - sum).tdiv 1000 < n
              · have E : Aside0 (R = (0, some 13)) := ⟨by obtain ⟨f, h, _⟩ := hX.out; rw [show longU 5 = 1000 from rfl] at h; rw [← h, if_pos (Or.inr (Or.inr hn))]⟩
                have d2 : ((35184372088832 - sum).tdiv 1000 < n) = True := eq_true hn
                clear hn
                go_wp2_with (go_at_call 24; refine (C1.out wr).mono ?_; rintro e w1 ⟨rfl, hB1⟩)
                go_wp2_with (go_at_call 25; refine (C2.out w1 (UTab.below (UTab.below HU.out HB.out) hB1)).mono ?_; rintro e w2 ⟨rfl, hB2⟩; obtain ⟨c0, c1, c2, c3, c4, c5, c6, c7, c8, c9, c10, c11, c12, c13⟩ := UTab.below (UTab.below (UTab.below HU.out HB.out) hB1) hB2)
                go_ret2
                exact ⟨by rw [E.out]; rfl, below_then (below_then HB.out HB.out.size hB1) (Nat.le_trans HB.out.size hB1.size) hB2⟩
              · have d2 : ((35184372088832 - sum).tdiv 1000 < n) = False := eq_false hn
                have X : Aside0 (wrap64 (sum + wrap64 (n * 1000)) = sum + n * 1000 ∧ bh.length < l'.length ∧ ∃ f, parL f (sum + n * 1000) 6 bh = R ∧ bh.length < f ∧ bh.length ≤ 200 ∧ 0 ≤ sum + n * 1000 ∧ sum + n * 1000 ≤ 35184372088832) := by
                  obtain ⟨f, h, hb, h2, s0, s1, _, _, n0, n1, _, _⟩ := hX.out
                  rw [show longU 5 = 1000 from rfl, if_neg (fun h => h.elim (fun h => absurd h (by decide)) (fun h => h.elim (fun h => absurd h (of_eq_false d1)) hn))] at h
                  have hb := hb rfl
                  have n1 := n1 rfl
                  rw [Int.tdiv_eq_ediv_of_nonneg (by omega)] at hn
                  exact ⟨by unfold wrap64; omega, hb.2, f, h, hb.1, by omega, by omega, by omega⟩
                clear hn
                go_wp2_with (go_at_call 24; refine (C1.out wr).mono ?_; rintro e w1 ⟨rfl, hB1⟩)
                go_wp2_with (go_at_call 25; refine (C2.out w1 (UTab.below (UTab.below HU.out HB.out) hB1)).mono ?_; rintro e w2 ⟨rfl, hB2⟩; obtain ⟨c0, c1, c2, c3, c4, c5, c6, c7, c8, c9, c10, c11, c12, c13⟩ := UTab.below (UTab.below (UTab.below HU.out HB.out) hB1) hB2)
                go_roundg bh.length
                case measure => exact X.out.2.1
                case rel =>
                  obtain ⟨e1, _, f, e2, e3, e4, e5, e6⟩ := X.out
                  exact ⟨bh, sum + n * 1000, 6, rfl, by rw [e1], rfl, rfl, ⟨f, e2, e3, e4, e5, e6, by omega, by omega⟩, ⟨below_then (below_then HB.out HB.out.size hB1) (Nat.le_trans HB.out.size hB1.size) hB2⟩⟩
            · have w3 : True := trivial
              by_cases hn : 35184372088832 - sum < n
              · have E : Aside0 (R = (0, some 13)) := ⟨by obtain ⟨f, h, _⟩ := hX.out; rw [show longU 6 = 1 from rfl, Int.tdiv_one] at h; rw [← h, if_pos (Or.inr (Or.inr hn))]⟩
                have d2 : (35184372088832 - sum < n) = True := eq_true hn
                clear hn
                go_wp2_with (go_at_call 24; refine (C1.out wr).mono ?_; rintro e w1 ⟨rfl, hB1⟩)
                go_wp2_with (go_at_call 25; refine (C2.out w1 (UTab.below (UTab.below HU.out HB.out) hB1)).mono ?_; rintro e w2 ⟨rfl, hB2⟩; obtain ⟨c0, c1, c2, c3, c4, c5, c6, c7, c8, c9, c10, c11, c12, c13⟩ := UTab.below (UTab.below (UTab.below HU.out HB.out) hB1) hB2)
                go_ret2
                exact ⟨by rw [E.out]; rfl, below_then (below_then HB.out HB.out.size hB1) (Nat.le_trans HB.out.size hB1.size) hB2⟩
              · have d2 : (35184372088832 - sum < n) = False := eq_false hn
                have X : Aside0 (wrap64 (sum + wrap64 n) = sum + n * 1 ∧ bh.length < l'.length ∧ ∃ f, parL f (sum + n * 1) 7 bh = R ∧ bh.length < f ∧ bh.length ≤ 200 ∧ 0 ≤ sum + n * 1 ∧ sum + n * 1 ≤ 35184372088832) := by
                  obtain ⟨f, h, hb, h2, s0, s1, _, _, n0, n1, _, _⟩ := hX.out
                  rw [show longU 6 = 1 from rfl, Int.tdiv_one, if_neg (fun h => h.elim (fun h => absurd h (by decide)) (fun h => h.elim (fun h => absurd h (of_eq_false d1)) hn))] at h
                  have hb := hb rfl
                  have n1 := n1 rfl
                  exact ⟨by unfold wrap64; omega, hb.2, f, h, hb.1, by omega, by omega, by omega⟩
                clear hn
                go_wp2_with (go_at_call 24; refine (C1.out wr).mono ?_; rintro e w1 ⟨rfl, hB1⟩)
                go_wp2_with (go_at_call 25; refine (C2.out w1 (UTab.below (UTab.below HU.out HB.out) hB1)).mono ?_; rintro e w2 ⟨rfl, hB2⟩; obtain ⟨c0, c1, c2, c3, c4, c5, c6, c7, c8, c9, c10, c11, c12, c13⟩ := UTab.below (UTab.below (UTab.below HU.out HB.out) hB1) hB2)
                go_roundg bh.length
                case measure => exact X.out.2.1
                case rel =>
                  obtain ⟨e1, _, f, e2, e3, e4, e5, e6⟩ := X.out
                  exact ⟨bh, sum + n * 1, 7, rfl, by rw [e1], rfl, rfl, ⟨f, e2, e3, e4, e5, e6, by omega, by omega⟩, ⟨below_then (below_then HB.out HB.out.size hB1) (Nat.le_trans HB.out.size hB1.size) hB2⟩⟩
end Go.Proofs.YtmgbnnanophehaaDoor.Span
