/- The law SpanTexts, in plain words. -/
import Derived.Test.YtmgbnnanophehaaDoorSpanU
namespace Go.Proofs.YtmgbnnanophehaaDoor.Span
open Go.Proofs Go.RowKit Go.Proofs.YtmgbnnanophehaaDoorW.PrintWords Go.Proofs.YtmgbnnanophehaaDoorW.PrintLast Go.Proofs.YtmgbnnanophehaaDoor.S
set_option linter.unusedVariables false
set_option linter.unusedSimpArgs false
theorem B_cat (a b : List UInt8) : B a ++ B b = B (a ++ b) := by
  apply ByteArray.ext
  simp [B]
theorem one_digit (d : Nat) (h : d < 10) : (⟨#[48, 49, 50, 51, 52, 53, 54, 55, 56, 57]⟩ : ByteArray).extract d (d + 1) = B [UInt8.ofNat (48 + d)] := by
  rcases (show d = 0 ∨ d = 1 ∨ d = 2 ∨ d = 3 ∨ d = 4 ∨ d = 5 ∨ d = 6 ∨ d = 7 ∨ d = 8 ∨ d = 9 by omega) with rfl | rfl | rfl | rfl | rfl | rfl | rfl | rfl | rfl | rfl <;> rfl
theorem digits_ev (n : Nat) : ∀ acc : List UInt8, n ≤ 35184372088832 → acc.length + n < 4611686018427387904 → Ev (fun k => soundingsref07_digits.l0 k (n : Int) (B acc)) (B (Lib.decDigits n ++ acc)) := by
  induction n using Nat.strongRecOn with
  | _ n ih =>
    intro acc hn ha
    have e1 : Int.tmod (n : Int) 10 = ((n % 10 : Nat) : Int) := by rw [Int.tmod_eq_emod_of_nonneg (by omega)]; omega
    have e2 : Int.tdiv (n : Int) 10 = ((n / 10 : Nat) : Int) := by rw [Int.tdiv_eq_ediv_of_nonneg (by omega)]; omega
    have e3 : Aside0 (wrap64 ((n % 10 : Nat) + 1 : Int) = ((n % 10 + 1 : Nat) : Int)) := ⟨by unfold wrap64; omega⟩
    have e4 : Aside0 (wrap64 ((n / 10 : Nat) : Int) = ((n / 10 : Nat) : Int)) := ⟨by unfold wrap64; omega⟩
    have hd := one_digit (n % 10) (by omega)
    have hsz : (B [UInt8.ofNat (48 + n % 10)]).size + (B acc).size ≤ 9223372036854775807 := by
      show 1 + acc.length ≤ _
      omega
    by_cases h : n < 10
    · refine Ev.done fun k => ?_
      simp only [soundingsref07_digits.l0]
      rw [e1, e3.out, e2, e4.out, if_pos (by omega), if_pos (by omega), if_pos (by omega)]
      simp only [Int.toNat_natCast]
      rw [hd, if_pos hsz, if_pos (by omega), B_cat, dec_small h, show n % 10 = n by omega]
    · have := ih (n / 10) (by omega) (UInt8.ofNat (48 + n % 10) :: acc) (by omega) (by simp only [List.length_cons]; omega)
      rw [dec_big h, List.append_assoc, List.singleton_append]
      refine this.step fun k => ?_
      simp only [soundingsref07_digits.l0]
      rw [e1, e3.out, e2, e4.out, if_pos (by omega), if_pos (by omega), if_pos (by omega)]
      simp only [Int.toNat_natCast]
      rw [hd, if_pos hsz, if_neg (by omega), B_cat]
      rfl

def finT (l : List UInt8) : ByteArray × Bool := if l = [] then (B [48, 115], true) else (B l, true)
theorem name_at (j : Nat) (nm : List UInt8) (L : Int) (h : units[j]? = some (nm, L)) (hj : j < 7) : rdOf ByteArray.empty uL (j : Int) = B nm := by
  rcases (show j = 0 ∨ j = 1 ∨ j = 2 ∨ j = 3 ∨ j = 4 ∨ j = 5 ∨ j = 6 by omega) with rfl | rfl | rfl | rfl | rfl | rfl | rfl <;>
    (simp only [units, List.getElem?_cons_zero, List.getElem?_cons_succ, Option.some.injEq, Prod.mk.injEq] at h; rw [← h.1]; rfl)
theorem text_l0 (n : Nat) : ∀ (j : Nat) (acc : List UInt8) (y : Int), j + n = 7 → 0 ≤ y → y ≤ M → acc.length ≤ 16 * j → Ev (fun k => soundingsref07_Text.l0 k (B acc) y (j : Int)) (finT (acc ++ texL (units.drop j) y)) := by
  induction n with
  | zero =>
    intro j acc y hj h0 h1 ha
    obtain rfl : j = 7 := by omega
    rw [show texL (units.drop 7) y = [] from rfl, List.append_nil]
    refine Ev.done fun k => ?_
    simp only [soundingsref07_Text.l0]
    rw [if_neg (by decide), Lib.toList_data]
    unfold finT
    by_cases h : acc = []
    · rw [if_pos h, if_pos (show (B acc).data.toList = [] by simp [B, h])]
    · rw [if_neg h, if_neg (show ¬ (B acc).data.toList = [] by simp [B, h])]
  | succ n ih =>
    intro j acc y hj h0 h1 ha
    obtain ⟨nm, L, hu, hfu, hnd, hne, hlo, hL, h6, hnl⟩ := unit_facts j (by omega)
    have hst : texL (units.drop j) y = (if 0 < y / L then Lib.decDigits (y / L).toNat ++ nm else []) ++ texL (units.drop (j + 1)) (y % L) := by rw [units_drop j _ hu]; rfl
    have hm0 : 0 ≤ y % L := Int.emod_nonneg _ (by omega)
    have hdm := Int.mul_ediv_add_emod y L
    have hdn := Int.ediv_nonneg h0 (show 0 ≤ L by omega)
    have hle : y / L ≤ y := Int.ediv_le_self _ h0
    have hml : y % L ≤ y := by have := Int.mul_nonneg (show 0 ≤ L by omega) hdn; omega
    have hmn := Int.mul_nonneg (show 0 ≤ L by omega) hdn
    have hrd : rd lL (j : Int) = L := by rw [(long_at j (by omega)).1, hlo]
    have hw1 : Aside0 (wrap64 (Int.tdiv y L) = y / L) := ⟨by rw [Int.tdiv_eq_ediv_of_nonneg h0]; unfold M at h1; unfold wrap64; omega⟩
    have hw2 : Aside0 (wrap64 (y - wrap64 (y / L * L)) = y % L) := ⟨by
      have e : y / L * L = L * (y / L) := Int.mul_comm _ _
      rw [e]
      unfold M at h1
      generalize L * (y / L) = Z at *
      unfold wrap64; omega⟩
    have hw3 : Aside0 (wrap64 ((j : Int) + 1) = ((j + 1 : Nat) : Int)) := ⟨by unfold wrap64; omega⟩
    have hj7 : (j : Int) < (lL.length : Int) := by show (j : Int) < 7; omega
    have hd14 := dec_pow 13 (y / L).toNat (by unfold M at h1; omega)
    rw [hst]
    by_cases hq : 0 < y / L
    · rw [if_pos hq]
      have hI := ih (j + 1) (acc ++ Lib.decDigits (y / L).toNat ++ nm) (y % L) (by omega) hm0 (by omega) (by simp only [List.length_append]; omega)
      have hD := digits_ev (y / L).toNat [] (by unfold M at h1; omega) (by unfold M at h1; simp only [List.length_nil]; omega)
      rw [List.append_nil, show ((y / L).toNat : Int) = y / L by omega] at hD
      have hD2 : Ev (fun k => soundingsref07_digits.f k (y / L)) (B (Lib.decDigits (y / L).toNat)) := hD
      rw [show acc ++ (Lib.decDigits (y / L).toNat ++ nm ++ texL (units.drop (j + 1)) (y % L)) = acc ++ Lib.decDigits (y / L).toNat ++ nm ++ texL (units.drop (j + 1)) (y % L) by simp only [List.append_assoc]]
      refine (Ev.bind (g := fun _ k => soundingsref07_Text.l0 k (B (acc ++ Lib.decDigits (y / L).toNat ++ nm)) (y % L) ((j + 1 : Nat) : Int)) hD2 hI) |> fun h => ?_
      obtain ⟨K1, hK1⟩ := hD2
      obtain ⟨K2, hK2⟩ := hI
      refine ⟨max K1 K2 + 1, fun k hk => ?_⟩
      obtain ⟨m, rfl⟩ : ∃ m, k = m + 1 := ⟨k - 1, by omega⟩
      show soundingsref07_Text.l0 (m + 1) (B acc) y (j : Int) = _
      simp only [soundingsref07_Text.l0]
      rw [if_pos (by omega)]
      show (some lL).bind _ = _
      simp only [Option.bind_some]
      rw [if_pos (by omega), if_pos hj7, hrd, if_neg (by omega)]
      show (some lL).bind _ = _
      simp only [Option.bind_some]
      rw [if_pos hj7, hw1.out, if_pos hq, show soundingsref07_digits.f m (y / L) = _ from hK1 m (by omega)]
      simp only [Option.bind_some]
      rw [if_pos (show (B acc).size + (B (Lib.decDigits (y / L).toNat)).size ≤ 9223372036854775807 by show acc.length + (Lib.decDigits (y / L).toNat).length ≤ _; omega)]
      show (some uL).bind _ = _
      simp only [Option.bind_some]
      rw [if_pos (show (j : Int) < (uL.length : Int) by show (j : Int) < 7; omega), name_at j nm L hu (by omega), B_cat, if_pos (show (B (acc ++ Lib.decDigits (y / L).toNat)).size + (B nm).size ≤ 9223372036854775807 by show (acc ++ Lib.decDigits (y / L).toNat).length + nm.length ≤ _; rw [List.length_append]; omega), B_cat, hrd, hw2.out, hw3.out]
      exact hK2 m (by omega)
    · rw [if_neg hq, List.nil_append]
      refine (ih (j + 1) acc (y % L) (by omega) hm0 (by omega) (by omega)).step fun k => ?_
      simp only [soundingsref07_Text.l0]
      rw [if_pos (by omega)]
      show (some lL).bind _ = _
      simp only [Option.bind_some]
      rw [if_pos (by omega), if_pos hj7, hrd, if_neg (by omega)]
      show (some lL).bind _ = _
      simp only [Option.bind_some]
      rw [if_pos hj7, hw1.out, if_neg hq, hrd, hw2.out, hw3.out]

theorem fin_text (v : Int) (h0 : 0 ≤ v) (h1 : v ≤ M) : finT (texL units v) = (B (textL v).1, true) := by
  have hp := (parse_text v h0 h1).2
  by_cases hv : v = 0
  · subst hv; rfl
  · have e : textL v = (texL units v, none) := by unfold textL; rw [if_neg (by omega), if_neg hv]
    rw [e] at hp ⊢
    simp only at hp ⊢
    have hne : texL units v ≠ [] := by
      intro e2
      rw [e2] at hp
      unfold parseL at hp
      simp at hp
    unfold finT
    rw [if_neg hne]
theorem spanTexts_pure (a0 : Int) : ∃ k, soundingslaw07_SpanTexts.f k a0 = some true := by
  by_cases hr : a0 < 0 ∨ 35184372088832 < a0
  · have e : textL a0 = ([], some 13) := by unfold textL; rw [if_pos hr]
    have hT : soundingsref07_Text.f 1 a0 = some (⟨#[]⟩, false) := by
      simp only [soundingsref07_Text.f, soundingsref07_Text.j0]
      by_cases h : a0 < 0
      · rw [if_pos h, if_pos trivial]
      · rw [if_neg h, if_pos (decide_eq_true (by omega))]
    refine ⟨1, ?_⟩
    unfold soundingslaw07_SpanTexts.f span_Text.f
    rw [awake_true, e, hT]
    simp only [Option.bind_some, if_true]
    rw [if_neg (by decide), Lib.toList_data, if_pos (by rfl)]
    rfl
  · have h0 : 0 ≤ a0 := by omega
    have h1 : a0 ≤ M := by unfold M; omega
    obtain ⟨p1, p2⟩ := parse_text a0 h0 h1
    have hl := text_l0 7 0 [] a0 (by omega) h0 h1 (by simp)
    rw [List.nil_append, List.drop_zero, fin_text a0 h0 h1] at hl
    obtain ⟨K, hK⟩ := hl
    have hT : soundingsref07_Text.f (K + 1) a0 = some (B (textL a0).1, true) := by
      simp only [soundingsref07_Text.f, soundingsref07_Text.j0]
      rw [if_neg (by omega), if_neg (by simp; omega)]
      exact hK K (Nat.le_refl _)
    refine ⟨K + 1, ?_⟩
    unfold soundingslaw07_SpanTexts.f span_Text.f
    rw [awake_true, hT]
    simp only [Option.bind_some, if_true]
    have hP : span_Parse.f (B (textL a0).1) = some (a0, none) := by
      unfold span_Parse.f
      rw [show (B (textL a0).1).data.toList = (textL a0).1 by simp [B], p2]
    rw [hP, p1]
    simp
end Go.Proofs.YtmgbnnanophehaaDoor.Span
