/- The law LabelAgain, in plain words. -/
import Derived.Test.YtmgbnnanophehabDoorLabGe
import Derived.Test.YtmgbnnanophehabDoorLx62
namespace Go.Proofs.YtmgbnnanophehabDoor.Lab
open Go.Proofs Go.RowKit Go.Proofs.YtmgbnnanophehabDoor.Cmp Go.Proofs.YtmgbnnanophehabDoorW.PrintWords Go.Proofs.YtmgbnnanophehabDoorW.PrintLast Go.Proofs.YtmgbnnanophehabDoor.L
set_option linter.unusedVariables false
set_option linter.unusedSimpArgs false
theorem get_sn (l : List Lb) (h : SN l) : ∀ i (hi : i < l.length), getL l l[i].f0 = l[i].f1 := by
  induction l with
  | nil => intro i hi; simp at hi
  | cons x r ih =>
    intro i hi
    obtain ⟨hx, hr⟩ := List.pairwise_cons.1 h
    cases i with
    | zero => simp only [List.getElem_cons_zero, getL]; rw [if_pos trivial]
    | succ i =>
      simp only [List.getElem_cons_succ, getL]
      have hi' : i < r.length := by simpa using hi
      rw [if_neg]
      · exact ih hr i hi'
      · intro e
        have := hx r[i] (List.getElem_mem hi')
        rw [e, Ord3.str.refl] at this
        omega
theorem has_map (l : List Lb) (x : Lb) (h : x ∈ l) : hasB (l.map (·.f0)) x.f0 = true := by
  unfold hasB
  rw [List.any_eq_true]
  exact ⟨x.f0, List.mem_map.2 ⟨x, h, rfl⟩, by simp⟩
theorem keep_all (l : List Lb) : keepL l (l.map (·.f0)) = l := by
  unfold keepL
  rw [List.filter_eq_self]
  exact fun x hx => has_map l x hx
theorem drop_all (l : List Lb) : dropL l (l.map (·.f0)) = [] := by
  unfold dropL
  rw [List.filter_eq_nil_iff]
  intro x hx
  rw [has_map l x hx]; simp
theorem keep_none (l : List Lb) : keepL l [] = [] := by
  unfold keepL hasB
  rw [List.filter_eq_nil_iff]
  intro x hx
  simp
theorem again_l0 (o : List Lb) (ho : o.length ≤ 16) (hs : SN o) (hr : rightB mayB o = true) (d : Nat) : ∀ i : Nat, i + d = o.length → Lab.Ev (fun k => soundingslaw01_LabelAgain.l0 k o ((o.take i).map (·.f0)) (i : Int)) true := by
  induction d with
  | zero =>
    intro i hi
    rw [List.take_of_length_le (by omega)]
    refine Lab.Ev.done fun k => ?_
    simp only [soundingslaw01_LabelAgain.l0]
    rw [if_neg (by omega), make_is o (by omega), mk_right hr]
    simp only [Option.bind_some, Option.isNone_none, if_true, label_Cmp.f]
    rw [ord_ls.refl, if_pos rfl, keep_is o _ (by omega), keep_all]
    simp only [Option.bind_some]
    rw [ord_ls.refl, if_pos rfl, keep_is o _ (by omega), keep_none]
    simp only [Option.bind_some]
    rw [if_pos (by rfl), drop_is o _ (by omega), drop_all]
    rfl
  | succ d ih =>
    intro i hi
    have hil : i < o.length := by omega
    have hx : rd_T36 o (i : Int) = o[i] := lb_rd o i hil
    have h3 := ih (i + 1) (by omega)
    rw [List.take_succ_eq_append_getElem hil, List.map_append, List.map_cons, List.map_nil] at h3
    have hfull := (((rightB_iff o).1 hr).2.1 o[i] (List.getElem_mem hil)).2
    have hg := get_ev o o[i].f0 (by omega)
    rw [get_sn o hs i hil] at hg
    refine Lab.Ev.ask (g := fun t k => (if t.toList = (o[i].f1).toList then (if (o[i].f1).toList = ([] : List UInt8) then (some false) else (soundingslaw01_LabelAgain.l0 k o (((o.take i).map (·.f0)) ++ [o[i].f0]) (wrap64 ((i : Int) + 1)))) else (some false))) hg h3 (fun k => ?_) (fun k => ?_)
    · simp only [soundingslaw01_LabelAgain.l0]
      rw [if_pos (by omega), if_pos (by omega), if_pos (by simp; omega), hx]
    · show (if _ then _ else _) = _
      rw [if_pos rfl, if_neg (fun e => by have := (full_is _).1 e; rw [hfull] at this; cases this), wrap_succ2 hil (by omega)]
theorem labelAgain_pure (l : List S36) (hl : l.length ≤ 9223372036854775807) : ∃ k, soundingslaw01_LabelAgain.f k l = some true := by
  obtain ⟨K0, h0⟩ := awake_ev
  obtain ⟨K1, h1⟩ := short_ev l hl
  by_cases hs : shortB l = true
  · obtain ⟨hl40, hz⟩ := short_spec hs
    rcases mk_cases (may := mayB) l with ⟨o, e, hg, hp, hsn, h16, hr⟩ | ⟨e, _⟩
    · obtain ⟨K2, h2⟩ := again_l0 o h16 hsn hr o.length 0 (by omega)
      refine ⟨K0 + K1 + K2, ?_⟩
      unfold soundingslaw01_LabelAgain.f
      rw [show soundingslaw01_awake.f (K0 + K1 + K2) = some true from h0 _ (by omega)]
      simp only [Option.bind_some, if_true]
      rw [show soundingsref01_Short.f (K0 + K1 + K2) l = some (shortB l) from h1 _ (by omega), hs]
      simp only [Option.bind_some, if_true]
      rw [make_is l (by omega), e]
      simp only [Option.bind_some, Option.isNone_none, if_true]
      exact h2 _ (by omega)
    · refine ⟨K0 + K1, ?_⟩
      unfold soundingslaw01_LabelAgain.f
      rw [show soundingslaw01_awake.f (K0 + K1) = some true from h0 _ (by omega)]
      simp only [Option.bind_some, if_true]
      rw [show soundingsref01_Short.f (K0 + K1) l = some (shortB l) from h1 _ (by omega), hs]
      simp only [Option.bind_some, if_true]
      rw [make_is l (by omega), e]
      rfl
  · refine ⟨K0 + K1, ?_⟩
    unfold soundingslaw01_LabelAgain.f
    rw [show soundingslaw01_awake.f (K0 + K1) = some true from h0 _ (by omega)]
    simp only [Option.bind_some, if_true]
    rw [show soundingsref01_Short.f (K0 + K1) l = some (shortB l) from h1 _ (by omega), Bool.eq_false_iff.2 hs]
    rfl
end Go.Proofs.YtmgbnnanophehabDoor.Lab
