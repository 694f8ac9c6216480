/- The law SpanParses, in plain words. -/
import Derived.Test.YtmgbnnanophehaaDoorSpanQ
import Derived.Test.YtmgbnnanophehaaDoorSx48
namespace Go.Proofs.YtmgbnnanophehaaDoor.Span
open Go.Proofs Go.RowKit Go.Proofs.YtmgbnnanophehaaDoorW.PrintWords Go.Proofs.YtmgbnnanophehaaDoorW.PrintLast Go.Proofs.YtmgbnnanophehaaDoor.S
set_option linter.unusedVariables false
def resP : Int × Option Int → Int × Bool
  | (v, none) => (v, true)
  | (_, some _) => (0, false)
theorem parL_bad2 (f : Nat) (hf : 0 < f) (sum next : Int) (l : List UInt8) (hl : l ≠ []) (h : (numL 0 0 l).2.2 = false ∨ (namedL (numL 0 0 l).2.1).1 < next ∨ (numL 0 0 l).1 > Int.tdiv (M - sum) (longU (namedL (numL 0 0 l).2.1).1)) : parL f sum next l = (0, some 13) := by
  obtain ⟨f, rfl⟩ : ∃ m, f = m + 1 := ⟨f - 1, by omega⟩
  simp only [parL]; rw [if_neg hl, if_pos h]
def lL : List Int := [31536000000, 604800000, 86400000, 3600000, 60000, 1000, 1]
theorem long_at (k : Nat) (hk : k < 7) : rd lL (k : Int) = longU (k : Int) ∧ 1 ≤ longU (k : Int) ∧ longU (k : Int) ≤ 31536000000 := by
  rcases (show k = 0 ∨ k = 1 ∨ k = 2 ∨ k = 3 ∨ k = 4 ∨ k = 5 ∨ k = 6 by omega) with rfl | rfl | rfl | rfl | rfl | rfl | rfl <;> decide
theorem j2_bad (s : ByteArray) (a b c d : Int) : Ev (fun k => soundingsref07_Parse.j2 k s a b c d true) (0, false) := Ev.done fun k => by
  simp only [soundingsref07_Parse.j2]; rw [if_pos trivial]
theorem l0_part (s : ByteArray) (sum last : Int) (i : Nat) (hi : i < s.size) (P : Int × Int × Int × Bool) (X : Int × Bool) (hP : Ev (fun k => soundingsref07_part.f k s (i : Int)) P)
    (hX : Ev (fun k => if P.2.2.2 = true then soundingsref07_Parse.j2 k s sum P.1 P.2.1 P.2.2.1 (decide (P.2.1 ≤ last)) else soundingsref07_Parse.j2 k s sum P.1 P.2.1 P.2.2.1 true) X) :
    Ev (fun k => soundingsref07_Parse.l0 k s sum last (i : Int)) X := by
  refine (Ev.bind (g := fun bt k => if bt.2.2.2 = true then soundingsref07_Parse.j2 k s sum bt.1 bt.2.1 bt.2.2.1 (decide (bt.2.1 ≤ last)) else soundingsref07_Parse.j2 k s sum bt.1 bt.2.1 bt.2.2.1 true) hP hX).step fun k => ?_
  simp only [soundingsref07_Parse.l0]
  rw [if_pos (by omega)]
/-- Behind a part: its number, its unit k, its end. -/
theorem j2_go (s : ByteArray) (sum V : Int) (k : Nat) (hk : k < 7) (x9 : Int) (X : Int × Bool) (hs0 : 0 ≤ sum) (hs1 : sum ≤ M) (hV0 : 0 ≤ V) (hV1 : V ≤ M + 1)
    (hbad : sum + V * longU (k : Int) > M → X = (0, false)) (hgo : sum + V * longU (k : Int) ≤ M → Ev (fun q => soundingsref07_Parse.l0 q s (sum + V * longU (k : Int)) (k : Int) x9) X) :
    Ev (fun q => soundingsref07_Parse.j2 q s sum V (k : Int) x9 false) X := by
  obtain ⟨hr, hL1, hL2⟩ := long_at k hk
  obtain ⟨L, hL⟩ : ∃ L, L = longU (k : Int) := ⟨_, rfl⟩
  rw [← hL] at hr hL1 hL2 hbad hgo
  have hVL : V ≤ V * L := by
    have := Int.mul_le_mul_of_nonneg_left hL1 hV0
    omega
  have hend : ∀ S : Int, (S = sum + V * L) → Ev (fun q => soundingsref07_Parse.l1 q s S V (k : Int) x9 1) X := by
    intro S hS
    have h4 : Ev (fun q => soundingsref07_Parse.j4 q s S V (k : Int) x9 1 false) X := by
      by_cases hM : S > M
      · rw [hbad (by omega)]
        refine Ev.done fun q => ?_
        simp only [soundingsref07_Parse.j4]
        rw [if_neg (by decide), if_pos (show S > 35184372088832 from hM)]
      · have := hgo (by omega)
        rw [← hS] at this
        refine this.step fun q => ?_
        simp only [soundingsref07_Parse.j4]
        rw [if_neg (by decide), if_neg (show ¬ S > 35184372088832 from hM)]
    refine h4.step fun q => ?_
    simp only [soundingsref07_Parse.l1]
    rw [if_neg (by decide)]
  have h1 : Ev (fun q => soundingsref07_Parse.l1 q s sum V (k : Int) x9 0) X := by
    by_cases hV : V > 0
    · have h4 : Ev (fun q => soundingsref07_Parse.j4 q s sum V (k : Int) x9 0 true) X := by
        have hdiv : wrap64 (35184372088832 / L) = 35184372088832 / L := by
          have a1 : 0 ≤ 35184372088832 / L := Int.ediv_nonneg (by decide) (by omega)
          have a2 : 35184372088832 / L ≤ 35184372088832 := Int.ediv_le_self _ (by decide)
          unfold wrap64; omega
        by_cases hq : V > 35184372088832 / L
        · have hx : X = (0, false) := hbad (by
            have := (Int.ediv_lt_iff_lt_mul (show 0 < L by omega)).1 hq
            unfold M; omega)
          rw [hx]
          refine Ev.done fun q => ?_
          simp only [soundingsref07_Parse.j4]
          rw [if_pos trivial]
          show (some lL).bind _ = _
          simp only [Option.bind_some]
          rw [if_pos (by omega), if_pos (show (k : Int) < (lL.length : Int) by show (k : Int) < 7; omega), hr, if_neg (by omega), hdiv, if_pos hq]
        · have hle : V * L ≤ 35184372088832 := by
            have := (Int.le_ediv_iff_mul_le (show 0 < L by omega)).1 (show V ≤ 35184372088832 / L by omega)
            exact this
          have hw : wrap64 (sum + wrap64 (V * L)) = sum + V * L := by
            have hVL0 : 0 ≤ V * L := by omega
            unfold M at hs1
            generalize V * L = Y at *
            unfold wrap64; omega
          refine (hend (sum + V * L) rfl).step fun q => ?_
          simp only [soundingsref07_Parse.j4]
          rw [if_pos trivial]
          show (some lL).bind _ = _
          simp only [Option.bind_some]
          rw [if_pos (by omega), if_pos (show (k : Int) < (lL.length : Int) by show (k : Int) < 7; omega), hr, if_neg (by omega), hdiv, if_neg hq]
          show (some lL).bind _ = _
          simp only [Option.bind_some]
          rw [if_pos (show (k : Int) < (lL.length : Int) by show (k : Int) < 7; omega), hr, hw, show wrap64 (0 + 1) = 1 by unfold wrap64; omega]
      refine h4.step fun q => ?_
      simp only [soundingsref07_Parse.l1]
      rw [if_pos (by decide), decide_eq_true hV]
    · have h4 : Ev (fun q => soundingsref07_Parse.j4 q s sum V (k : Int) x9 0 false) X := by
        have hz : sum + V * L = sum := by
          have : V = 0 := by omega
          rw [this, Int.zero_mul, Int.add_zero]
        have := hgo (by rw [hz]; exact hs1)
        rw [hz] at this
        refine this.step fun q => ?_
        simp only [soundingsref07_Parse.j4]
        rw [if_neg (by decide), if_neg (show ¬ sum > 35184372088832 by unfold M at hs1; omega)]
      refine h4.step fun q => ?_
      simp only [soundingsref07_Parse.l1]
      rw [if_pos (by decide), decide_eq_false hV]
  refine h1.step fun q => ?_
  simp only [soundingsref07_Parse.j2]
  rw [if_neg (by decide)]
theorem numL_nonDig {c : UInt8} {t : List UInt8} (h : isDig c = false) : (numL 0 0 (c :: t)).2.2 = false := by
  simp only [numL]; rw [if_neg (by simp [h])]; simp
theorem parse_ev (s : ByteArray) (hs : s.size < 4611686018427387904) (N : Nat) : ∀ (i : Nat) (sum next : Int) (f : Nat), s.size - i < N → i ≤ s.size → 0 ≤ sum → sum ≤ M → 0 ≤ next → next ≤ 7 → (s.data.toList.drop i).length < f →
    Ev (fun k => soundingsref07_Parse.l0 k s sum (next - 1) (i : Int)) (resP (parL f sum next (s.data.toList.drop i))) := by
  induction N with
  | zero => intro i sum next f h; omega
  | succ N ih =>
    intro i sum next f hN hi h0 h1 hn0 hn7 hf
    obtain ⟨l, hl⟩ : ∃ l, s.data.toList.drop i = l := ⟨_, rfl⟩
    rw [hl] at hf ⊢
    obtain ⟨f, rfl⟩ : ∃ m, f = m + 1 := ⟨f - 1, by omega⟩
    by_cases hnil : l = []
    · subst hnil
      have := drop_nil hl
      refine Ev.done fun k => ?_
      simp only [soundingsref07_Parse.l0]
      rw [if_neg (by omega)]
      simp [parL, resP]
    · have hlt : i < s.size := by
        rcases Nat.lt_or_ge i s.size with h | h
        · exact h
        · exact absurd (hl.symm.trans (List.drop_eq_nil_of_le (by simpa using h))) hnil
      refine l0_part s sum (next - 1) i hlt _ _ (part_ev s hs i hi l hl) ?_
      have hcap := numL_cap l 0 0 (Int.le_refl _)
      rw [if_neg (show ¬ (0 : Int) > M + 1 by decide), Nat.zero_add] at hcap
      have hV := capL_ge l 0 (Int.le_refl _) (by decide)
      have hU := named_unit (l.dropWhile isDig)
      have hO := named_other (l.dropWhile isDig)
      obtain ⟨V, hVd⟩ : ∃ V, V = capL 0 l := ⟨_, rfl⟩
      rw [← hVd] at hcap hV ⊢
      have ht := congrArg List.length (List.takeWhile_append_dropWhile (p := isDig) (l := l))
      have ht2 := congrArg List.length (List.takeWhile_append_dropWhile (p := nonDig) (l := l.dropWhile isDig))
      rw [List.length_append] at ht ht2
      have hdl : s.data.toList.drop (i + (l.takeWhile isDig).length + ((l.dropWhile isDig).takeWhile nonDig).length) = (l.dropWhile isDig).dropWhile nonDig := by
        rw [← List.drop_drop, ← List.drop_drop, hl, dr_tw, dr_tw]
      have hlen : l.length = s.size - i := by rw [← hl]; simp
      obtain ⟨dl, hdle⟩ : ∃ d, d = (l.takeWhile isDig).length := ⟨_, rfl⟩
      rw [← hdle] at hcap ht hdl ⊢
      unfold partR
      by_cases hd0 : ¬ (i < i + dl)
      · have hz : dl = 0 := by omega
        rw [if_neg hd0]
        have hbad : (numL 0 0 l).2.2 = false := by
          rcases Int.lt_or_le M V with h | h
          · exact hcap.2 h
          · rw [hcap.1 h, hz]; rfl
        rw [parL_bad2 (f + 1) (by omega) sum next l hnil (Or.inl hbad)]
        exact (j2_bad s sum 0 0 0).eq fun k => rfl
      replace hd0 := Decidable.not_not.1 hd0
      rw [if_pos hd0]
      cases hF : findU ((l.dropWhile isDig).takeWhile nonDig) units 0 with
      | none =>
        have hx : parL (f + 1) sum next l = (0, some 13) := by
          rcases Int.lt_or_le M V with h | h
          · exact parL_bad2 (f + 1) (by omega) sum next l hnil (Or.inl (hcap.2 h))
          · have hnum := hcap.1 h
            by_cases hc : (numL 0 0 l).2.2 = false ∨ (namedL (numL 0 0 l).2.1).1 < next ∨ (numL 0 0 l).1 > Int.tdiv (M - sum) (longU (namedL (numL 0 0 l).2.1).1)
            · exact parL_bad2 (f + 1) (by omega) sum next l hnil hc
            · rw [parL_go f sum next l hnil hc, hnum]
              simp only
              rcases hO hF with e | ⟨c, t, e, hcd⟩
              · exfalso
                apply hc
                right; left
                rw [hnum]; simp only
                rw [e]; omega
              · rw [e]
                exact parL_bad2 f (by have : l.length ≠ 0 := fun h => hnil (List.length_eq_zero_iff.1 h); omega) _ _ _ (by simp) (Or.inl (numL_nonDig hcd))
        rw [hx]
        exact (j2_bad s sum 0 0 0).eq fun k => rfl
      | some k =>
        have hk7 : k < 7 := by have := (findU_rng _ _ _ _ hF).2; simpa [units] using this
        have hnm := hU k hF
        simp only
        rcases Int.lt_or_le M V with hVM | hVM
        · rw [parL_bad2 (f + 1) (by omega) sum next l hnil (Or.inl (hcap.2 hVM))]
          by_cases hkl : (k : Int) ≤ next - 1
          · exact (j2_bad s sum V k _).eq fun q => by simp only [if_pos, decide_eq_true hkl]; rfl
          · refine (j2_go s sum V k hk7 _ (0, false) h0 h1 hV.1 hV.2 (fun _ => rfl) (fun h => ?_)).eq fun q => by simp only [if_pos, decide_eq_false hkl]; rfl
            exfalso
            have := Int.mul_le_mul_of_nonneg_left (long_at k hk7).2.1 hV.1
            omega
        · have hnum := hcap.1 hVM
          have hok : (numL 0 0 l).2.2 = true := by rw [hnum]; exact decide_eq_true (by omega)
          have hn1 : (numL 0 0 l).1 = V := by rw [hnum]
          have hn2 : namedL (numL 0 0 l).2.1 = ((k : Int), (l.dropWhile isDig).dropWhile nonDig) := by rw [hnum]; exact hnm
          by_cases hkl : (k : Int) ≤ next - 1
          · rw [parL_bad2 (f + 1) (by omega) sum next l hnil (Or.inr (Or.inl (by rw [hn2]; simp only; omega)))]
            exact (j2_bad s sum V k _).eq fun q => by simp only [if_pos, decide_eq_true hkl]; rfl
          · have hL := long_at k hk7
            have hdivv : (Int.tdiv (M - sum) (longU (k : Int)) < V) ↔ M < sum + V * longU (k : Int) := by
              rw [Int.tdiv_eq_ediv_of_nonneg (by omega), Int.ediv_lt_iff_lt_mul (by omega)]
              constructor <;> intro h <;> omega
            refine (j2_go s sum V k hk7 _ _ h0 h1 hV.1 hV.2 (fun h => ?_) (fun h => ?_)).eq fun q => by simp only [if_pos, decide_eq_false hkl]; rfl
            · rw [parL_bad2 (f + 1) (by omega) sum next l hnil (Or.inr (Or.inr (by rw [hn2, hn1]; exact hdivv.2 h)))]
              rfl
            · have hc : ¬ ((numL 0 0 l).2.2 = false ∨ (namedL (numL 0 0 l).2.1).1 < next ∨ (numL 0 0 l).1 > Int.tdiv (M - sum) (longU (namedL (numL 0 0 l).2.1).1)) := by
                rw [hok, hn2, hn1]
                rintro (h3 | h3 | h3)
                · cases h3
                · simp only at h3; omega
                · have := hdivv.1 h3; omega
              rw [parL_go f sum next l hnil hc, hn2, hn1]
              simp only
              have hVL : 0 ≤ V * longU (k : Int) := Int.mul_nonneg hV.1 (by omega)
              have hrec := ih (i + dl + ((l.dropWhile isDig).takeWhile nonDig).length) (sum + V * longU (k : Int)) ((k : Int) + 1) f (by omega) (by omega) (by omega) h (by omega) (by omega) (by rw [hdl]; omega)
              rw [hdl, show (k : Int) + 1 - 1 = (k : Int) by omega] at hrec
              exact hrec

theorem parL_shape (f : Nat) : ∀ (sum next : Int) (l : List UInt8), (parL f sum next l).2 = none ∨ parL f sum next l = (0, some 13) := by
  induction f with
  | zero => intro sum next l; exact Or.inr rfl
  | succ f ih =>
    intro sum next l
    simp only [parL]
    split
    · exact Or.inl rfl
    · split
      · exact Or.inr rfl
      · exact ih _ _ _
theorem parseL_shape (l : List UInt8) : (parseL l).2 = none ∨ parseL l = (0, some 13) := by
  unfold parseL
  split
  · exact Or.inr rfl
  · exact parL_shape _ _ _ _
theorem text_5400000 : textL 5400000 = ([49, 104, 51, 48, 109], none) := by
  have d1 : Lib.decDigits 1 = [49] := by rw [Lib.decDigits]; rfl
  have d30 : Lib.decDigits 30 = [51, 48] := by rw [Lib.decDigits, dif_neg (by decide), show 30 / 10 = 3 from rfl, Lib.decDigits]; rfl
  unfold textL
  rw [if_neg (by decide), if_neg (by decide)]
  simp only [texL, units]
  simp [d1, d30]
theorem awake_true : soundingslaw07_awake.f = some true := by
  have p1 : span_Parse.f ⟨#[49, 104, 51, 48, 109]⟩ = some (5400000, none) := congrArg some (show parseL [49, 104, 51, 48, 109] = _ by decide +kernel)
  have p2 : span_Parse.f ⟨#[51, 48, 109, 49, 104]⟩ = some (0, some 13) := congrArg some (show parseL [51, 48, 109, 49, 104] = _ by decide +kernel)
  unfold soundingslaw07_awake.f span_Text.f
  rw [text_5400000, p1, p2]
  simp only [Option.bind_some, if_true, Option.isNone_none]
  rw [Lib.toList_data, if_pos (show (B [49, 104, 51, 48, 109]).data.toList = [49, 104, 51, 48, 109] from rfl)]
  rfl
theorem parseRef_ev (s : ByteArray) (hs : s.size < 4611686018427387904) : Ev (fun k => soundingsref07_Parse.f k s) (resP (parseL s.data.toList)) := by
  have hl : s.data.toList.length = s.size := by simp
  have hj : Ev (fun k => soundingsref07_Parse.j0 k s true) (0, false) := Ev.done fun k => by
    simp only [soundingsref07_Parse.j0]; rw [if_pos trivial]
  by_cases h0 : s.size = 0
  · have e : parseL s.data.toList = (0, some 13) := by unfold parseL; rw [if_pos (Or.inl (by omega))]
    rw [e]
    refine hj.eq fun k => ?_
    simp only [soundingsref07_Parse.f]
    rw [if_pos (by omega)]
  · by_cases h1 : 200 < s.size
    · have e : parseL s.data.toList = (0, some 13) := by unfold parseL; rw [if_pos (Or.inr (by omega))]
      rw [e]
      refine hj.eq fun k => ?_
      simp only [soundingsref07_Parse.f]
      rw [if_neg (by omega), decide_eq_true (by omega)]
    · have e : parseL s.data.toList = parL (s.data.toList.length + 1) 0 0 s.data.toList := by unfold parseL; rw [if_neg (by omega)]
      rw [e]
      have hp := parse_ev s hs (s.size + 1) 0 0 0 (s.data.toList.length + 1) (by omega) (by omega) (by omega) (by decide) (by omega) (by omega) (by simp)
      have hj2 : Ev (fun k => soundingsref07_Parse.j0 k s false) (resP (parL (s.data.toList.length + 1) 0 0 s.data.toList)) := by
        refine Ev.step hp fun k => ?_
        simp only [soundingsref07_Parse.j0]
        rw [if_neg (by decide)]
        rfl
      refine hj2.eq fun k => ?_
      simp only [soundingsref07_Parse.f]
      rw [if_neg (by omega), decide_eq_false (by omega)]
theorem spanParses_pure (a0 : ByteArray) : ∃ k, soundingslaw07_SpanParses.f k a0 = some true := by
  by_cases h : (a0.size : Int) > 400
  · refine ⟨0, ?_⟩
    unfold soundingslaw07_SpanParses.f
    rw [awake_true]
    simp only [Option.bind_some, if_true]
    rw [if_pos h]
  obtain ⟨K, hK⟩ := parseRef_ev a0 (by omega)
  refine ⟨K, ?_⟩
  unfold soundingslaw07_SpanParses.f
  rw [awake_true]
  simp only [Option.bind_some, if_true]
  rw [if_neg h]
  have : soundingsref07_Parse.f K a0 = _ := hK K (Nat.le_refl _)
  rw [this]
  unfold span_Parse.f
  simp only [Option.bind_some]
  rcases parseL_shape a0.data.toList with e | e
  · obtain ⟨⟨v, o⟩, he⟩ : ∃ x, x = parseL a0.data.toList := ⟨_, rfl⟩
    rw [← he] at e ⊢
    simp only at e
    subst e
    simp [resP]
  · rw [e]
    rfl
end Go.Proofs.YtmgbnnanophehaaDoor.Span
