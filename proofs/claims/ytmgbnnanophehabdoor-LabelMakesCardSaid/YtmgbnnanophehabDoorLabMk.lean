/- The law LabelMakes, in plain words. -/
import Derived.Test.YtmgbnnanophehabDoorLabQ
import Derived.Test.YtmgbnnanophehabDoorLabRt
import Derived.Test.YtmgbnnanophehabDoorLx52
namespace Go.Proofs.YtmgbnnanophehabDoor.Lab
open Go.Proofs Go.RowKit Go.Proofs.YtmgbnnanophehabDoor.Cmp Go.Proofs.YtmgbnnanophehabDoorW.PrintWords Go.Proofs.YtmgbnnanophehabDoorW.PrintLast Go.Proofs.YtmgbnnanophehabDoor.L
set_option linter.unusedVariables false
set_option linter.unusedSimpArgs false
theorem labelMakes_pure (l : List S36) (s : ByteArray) (hl : l.length ≤ 9223372036854775807) : ∃ k, soundingslaw01_LabelMakes.f k l s = some true := by
  obtain ⟨K0, h0⟩ := awake_ev
  obtain ⟨K1, h1⟩ := short_ev l hl
  have hj : ∀ k, soundingslaw01_LabelMakes.j0 (k + 1) l s true = some true := fun k => by simp only [soundingslaw01_LabelMakes.j0]; rw [if_pos trivial]
  by_cases hs : shortB l = true
  · by_cases hsz : s.size ≤ 400
    · obtain ⟨hl40, hz⟩ := short_spec hs
      obtain ⟨K2, h2⟩ := refmake_ev l (by omega) hz
      obtain ⟨K3, h3⟩ := right_ev l (by omega)
      obtain ⟨K4, h4⟩ := refright_ev l (by omega) hz
      obtain ⟨K5, h5⟩ := name_ev s
      obtain ⟨K6, h6⟩ := refname_ev s (by omega)
      obtain ⟨K7, h7⟩ := refcmp_ev l l hl
      rw [ord_ls.refl] at h7
      have hmain : ∀ K8 K9 : Nat, ∃ N, K0 ≤ N ∧ K1 ≤ N ∧ K2 ≤ N ∧ K3 ≤ N ∧ K4 ≤ N ∧ K5 ≤ N ∧ K6 ≤ N ∧ K7 ≤ N ∧ K8 ≤ N ∧ K9 ≤ N := fun K8 K9 => ⟨K0 + K1 + K2 + K3 + K4 + K5 + K6 + K7 + K8 + K9, by omega⟩
      have front : ∀ N, K0 ≤ N → K1 ≤ N → K2 ≤ N → K3 ≤ N → K4 ≤ N → K5 ≤ N → K6 ≤ N → K7 ≤ N → soundingslaw01_LabelMakes.f (N + 2) l s = soundingslaw01_LabelMakes.j1 (N + 1) (mkL mayB l).1 (mkL mayB l).2 (resM (mkL mayB l)).1 (resM (mkL mayB l)).2 false := by
        intro N g0 g1 g2 g3 g4 g5 g6 g7
        unfold soundingslaw01_LabelMakes.f
        rw [show soundingslaw01_awake.f (N + 2) = some true from h0 _ (by omega)]
        simp only [Option.bind_some, if_true]
        rw [show soundingsref01_Short.f (N + 2) l = some (shortB l) from h1 _ (by omega), hs]
        simp only [Option.bind_some, if_true]
        rw [decide_eq_false (by omega)]
        show soundingslaw01_LabelMakes.j0 (N + 1 + 1) l s false = _
        simp only [soundingslaw01_LabelMakes.j0]
        rw [if_neg (by decide)]
        simp only [Option.bind_some, List.length_nil, List.nil_append]
        rw [if_pos (by omega)]
        try simp only [Option.bind_some]
        rw [make_is l (by omega)]
        try simp only [Option.bind_some]
        rw [show soundingsref01_Make.f (N + 1) l = some (resM (mkL mayB l)) from h2 _ (by omega)]
        try simp only [Option.bind_some]
        rw [show label_Right.f (N + 1) l = some (rightB mayB l) from h3 _ (by omega), show soundingsref01_Right.f (N + 1) l = some (rightB mayB l) from h4 _ (by omega)]
        simp only [Option.bind_some, bne_self_eq_false]
        rw [if_neg (by decide), show label_IsName.f (N + 1) s = some (nameB s) from h5 _ (by omega), show soundingsref01_IsName.f (N + 1) s = some (nameB s) from h6 _ (by omega)]
        simp only [Option.bind_some, bne_self_eq_false]
        rw [if_neg (by decide), show soundingsref01_Cmp.f (N + 1) l l = some 0 from h7 _ (by omega)]
        rfl
      rcases mk_cases (may := mayB) l with ⟨o, e, hg, hp, hsn, h16, hr⟩ | ⟨e, _⟩
      · obtain ⟨K8, h8⟩ := refcmp_ev o o (by omega)
        rw [ord_ls.refl] at h8
        obtain ⟨K9, h9⟩ := right_ev o (by omega)
        obtain ⟨N, g0, g1, g2, g3, g4, g5, g6, g7, g8, g9⟩ := hmain K8 K9
        refine ⟨N + 2, ?_⟩
        rw [front N g0 g1 g2 g3 g4 g5 g6 g7, e]
        simp only [soundingslaw01_LabelMakes.j1, resM, Option.isNone_none]
        rw [if_neg (by decide), if_pos trivial, if_pos trivial, show soundingsref01_Cmp.f N o o = some 0 from h8 _ (by omega)]
        try simp only [Option.bind_some]
        rw [if_pos trivial, show label_Right.f N o = some (rightB mayB o) from h9 _ (by omega), hr]
        rfl
      · obtain ⟨N, g0, g1, g2, g3, g4, g5, g6, g7, g8, g9⟩ := hmain 0 0
        refine ⟨N + 2, ?_⟩
        rw [front N g0 g1 g2 g3 g4 g5 g6 g7, e]
        simp only [soundingslaw01_LabelMakes.j1, resM]
        rw [if_neg (by decide), if_neg (by decide), code_one]
        rfl
    · refine ⟨K0 + K1 + 1, ?_⟩
      unfold soundingslaw01_LabelMakes.f
      rw [show soundingslaw01_awake.f (K0 + K1 + 1) = some true from h0 _ (by omega)]
      simp only [Option.bind_some, if_true]
      rw [show soundingsref01_Short.f (K0 + K1 + 1) l = some (shortB l) from h1 _ (by omega), hs]
      simp only [Option.bind_some, if_true]
      rw [decide_eq_true (by omega)]
      exact hj _
  · refine ⟨K0 + K1 + 1, ?_⟩
    unfold soundingslaw01_LabelMakes.f
    rw [show soundingslaw01_awake.f (K0 + K1 + 1) = some true from h0 _ (by omega)]
    simp only [Option.bind_some, if_true]
    rw [show soundingsref01_Short.f (K0 + K1 + 1) l = some (shortB l) from h1 _ (by omega), Bool.eq_false_iff.2 hs]
    simp only [Option.bind_some]
    rw [if_neg (by decide)]
    exact hj _
end Go.Proofs.YtmgbnnanophehabDoor.Lab
