/- The law SpanSums, in plain words. -/
import Derived.Test.YtmgbnnanophehaaDoorSpanV
import Derived.Test.YtmgbnnanophehaaDoorSx52
namespace Go.Proofs.YtmgbnnanophehaaDoor.Span
open Go.Proofs Go.RowKit Go.Proofs.YtmgbnnanophehaaDoorW.PrintWords Go.Proofs.YtmgbnnanophehaaDoorW.PrintLast Go.Proofs.YtmgbnnanophehaaDoor.S
set_option linter.unusedVariables false
set_option linter.unusedSimpArgs false
theorem tex_put (us : List (List UInt8 × Int)) (nm : List UInt8) (L y : Int) (T : List UInt8) (h1 : (y + 60000) / L = y / L) (h2 : (y + 60000) % L = y % L + 60000) (h : texL us (y % L + 60000) = texL us (y % L) ++ T) :
    texL ((nm, L) :: us) (y + 60000) = texL ((nm, L) :: us) y ++ T := by
  simp only [texL]
  rw [h1, h2, h, List.append_assoc]
theorem tex_zero (us : List (List UInt8 × Int)) : texL us 0 = [] := by
  induction us with
  | nil => rfl
  | cons u r ih => simp only [texL]; rw [Int.zero_ediv, Int.zero_emod, ih, if_neg (by omega)]; rfl
theorem dec_one : Lib.decDigits 1 = [49] := by rw [Lib.decDigits]; rfl
theorem tex_sum (m : Int) (h0 : 0 ≤ m) : texL units (3600000 * m + 60000) = texL units (3600000 * m) ++ [49, 109] := by
  unfold units
  refine tex_put _ _ _ _ _ (by omega) (by omega) ?_
  obtain ⟨m1, e1, h1⟩ : ∃ m1 : Int, 3600000 * m % 31536000000 = 3600000 * m1 ∧ 0 ≤ m1 := ⟨m % 8760, by omega, by omega⟩
  rw [e1]
  refine tex_put _ _ _ _ _ (by omega) (by omega) ?_
  obtain ⟨m2, e2, h2⟩ : ∃ m2 : Int, 3600000 * m1 % 604800000 = 3600000 * m2 ∧ 0 ≤ m2 := ⟨m1 % 168, by omega, by omega⟩
  rw [e2]
  refine tex_put _ _ _ _ _ (by omega) (by omega) ?_
  obtain ⟨m3, e3, h3⟩ : ∃ m3 : Int, 3600000 * m2 % 86400000 = 3600000 * m3 ∧ 0 ≤ m3 := ⟨m2 % 24, by omega, by omega⟩
  rw [e3]
  refine tex_put _ _ _ _ _ (by omega) (by omega) ?_
  have e4 : 3600000 * m3 % 3600000 = 0 := by omega
  rw [e4, tex_zero]
  simp [texL, dec_one]
theorem text_ok (v : Int) (h0 : 0 ≤ v) (h1 : v ≤ M) : span_Text.f v = some (B (textL v).1, none) ∧ span_Parse.f (B (textL v).1) = some (v, none) := by
  obtain ⟨p1, p2⟩ := parse_text v h0 h1
  constructor
  · unfold span_Text.f; rw [p1]
  · unfold span_Parse.f
    rw [show (B (textL v).1).data.toList = (textL v).1 by simp [B], p2]
theorem spanSums_pure (a0 a1 : Int) (w0 : (Lit.int .u16 a0).wf = true) (w1 : (Lit.int .u16 a1).wf = true) : soundingslaw07_SpanSums.f a0 a1 = some true := by
  have b0 : 0 ≤ a0 ∧ a0 ≤ 65535 := by
    simp [Lit.wf, IntKind.min, IntKind.max, IntKind.signed, IntKind.bits] at w0
    omega
  have b1 : 0 ≤ a1 ∧ a1 ≤ 65535 := by
    simp [Lit.wf, IntKind.min, IntKind.max, IntKind.signed, IntKind.bits] at w1
    omega
  have q1 : span_Parse.f ⟨#[49, 104]⟩ = some (3600000, none) := congrArg some (show parseL [49, 104] = _ by decide +kernel)
  have ew0 : Aside0 (wrap64 (wrap64 a0 * 3600000) = a0 * 3600000) := ⟨by unfold wrap64; omega⟩
  have ew1 : Aside0 (wrap64 a1 = a1) := ⟨by unfold wrap64; omega⟩
  have ew2 : Aside0 (wrap64 (a0 * 3600000 + 60000) = a0 * 3600000 + 60000) := ⟨by unfold wrap64; omega⟩
  obtain ⟨t1, t2⟩ := text_ok a1 b1.1 (by unfold M; omega)
  obtain ⟨t3, t4⟩ := text_ok (a0 * 3600000) (by omega) (by unfold M; omega)
  have hlen : (B (textL (a0 * 3600000)).1).size ≤ 200 := by
    have hp := (parse_text (a0 * 3600000) (by omega) (by unfold M; omega)).2
    unfold parseL at hp
    by_cases hc : (textL (a0 * 3600000)).1.length = 0 ∨ 200 < (textL (a0 * 3600000)).1.length
    · rw [if_pos hc] at hp; exact absurd (congrArg Prod.snd hp) (by simp)
    · show (textL (a0 * 3600000)).1.length ≤ 200
      omega
  unfold soundingslaw07_SpanSums.f
  rw [awake_true]
  simp only [Option.bind_some, if_true, q1, ew0.out, ew1.out]
  rw [t3]
  simp only [Option.bind_some, Option.isNone_none, if_true]
  rw [if_pos (by omega)]
  by_cases ha : a0 = 0
  · have e : (textL (a0 * 3600000)).1 = [48, 115] := by rw [ha]; rfl
    have q2 : span_Parse.f (B [48, 115] ++ ⟨#[49, 109]⟩) = some (0, some 13) := congrArg some (show parseL [48, 115, 49, 109] = _ by decide +kernel)
    rw [e, q2]
    simp only [Option.bind_some]
    rw [if_pos ha, if_pos (show (B [48, 115]).toList = [48, 115] by rw [Lib.toList_data])]
    rfl
  · have hpos : 0 < a0 := by omega
    have e5 : B (textL (a0 * 3600000)).1 ++ ⟨#[49, 109]⟩ = B (textL (a0 * 3600000 + 60000)).1 := by
      have h2 := tex_sum a0 (by omega)
      rw [show (3600000 : Int) * a0 = a0 * 3600000 by omega] at h2
      unfold textL
      rw [if_neg (by unfold M; omega), if_neg (by omega), if_neg (by unfold M; omega), if_neg (by omega)]
      simp only
      rw [h2]
      exact B_cat _ [49, 109]
    obtain ⟨t5, t6⟩ := text_ok (a0 * 3600000 + 60000) (by omega) (by unfold M; omega)
    rw [e5, t6, t4, t1]
    simp only [Option.bind_some, if_neg ha, Option.isNone_none, if_true, ew2.out]
    rw [t2]
    simp only [Option.bind_some, Option.isNone_none, if_true]
    simp
end Go.Proofs.YtmgbnnanophehaaDoor.Span
