/- The reference's labels come to what the program's do: lists alone. -/
import Derived.Test.YtmgbnnanophehabDoorLabH
import Derived.Test.YtmgbnnanophehabDoorLx43
import Derived.Test.YtmgbnnanophehabDoorLx51
namespace Go.Proofs.YtmgbnnanophehabDoor.Lab
open Go.Proofs Go.RowKit Go.Proofs.YtmgbnnanophehabDoor.Cmp Go.Proofs.YtmgbnnanophehabDoorW.PrintWords Go.Proofs.YtmgbnnanophehabDoorW.PrintLast Go.Proofs.YtmgbnnanophehabDoor.L
set_option linter.unusedVariables false
set_option linter.unusedSimpArgs false
theorem wrap_succ2 {i n : Nat} (h : i < n) (hn : n ≤ 9223372036854775807) : wrap64 ((i : Int) + 1) = ((i + 1 : Nat) : Int) := by unfold wrap64; omega
theorem drop_cons {l : List Lb} {j : Nat} {x : Lb} {r : List Lb} (h : l.drop j = x :: r) : j < l.length ∧ l.drop (j + 1) = r ∧ rd_T36 l (j : Int) = x ∧ l[j]? = some x := by
  have hj : j < l.length := by
    rcases Nat.lt_or_ge j l.length with h1 | h1
    · exact h1
    · rw [List.drop_eq_nil_of_le h1] at h; cases h
  have he := List.drop_eq_getElem_cons hj
  rw [h] at he
  exact ⟨hj, (List.cons.inj he).2.symm, by rw [lb_rd l j hj]; exact (List.cons.inj he).1.symm, by rw [List.getElem?_eq_getElem hj, (List.cons.inj he).1]⟩
def smallB (x : Lb) : Bool := decide (x.f0.size ≤ 400) && decide (x.f1.size ≤ 400)
def shortB (l : List Lb) : Bool := l.all smallB && decide (l.length ≤ 40)
theorem short_l0 (l : List Lb) (hl : l.length ≤ 9223372036854775807) (r : List Lb) : ∀ j : Nat, l.drop j = r → Lab.Ev (fun k => soundingsref01_Short.l0 k l (j : Int)) (r.all smallB && decide (l.length ≤ 40)) := by
  induction r with
  | nil =>
    intro j h
    have hj := List.drop_eq_nil_iff.1 h
    refine Lab.Ev.done fun k => ?_
    simp only [soundingsref01_Short.l0]
    rw [if_neg (by omega), List.all_nil, Bool.true_and]
    exact congrArg some (decide_eq_decide.2 (by omega))
  | cons x r ih =>
    intro j h
    obtain ⟨hj, h2, hx, _⟩ := drop_cons h
    have h3 := ih (j + 1) h2
    by_cases hs : smallB x = true
    · rw [List.all_cons, hs, Bool.true_and]
      unfold smallB at hs
      rw [Bool.and_eq_true, decide_eq_true_eq, decide_eq_true_eq] at hs
      refine h3.step fun k => ?_
      simp only [soundingsref01_Short.l0]
      rw [if_pos (by omega), if_pos (by omega), hx, if_neg (by omega), if_neg (by omega), wrap_succ2 hj hl]
    · rw [List.all_cons, Bool.eq_false_iff.2 hs, Bool.false_and, Bool.false_and]
      unfold smallB at hs
      rw [Bool.and_eq_true, decide_eq_true_eq, decide_eq_true_eq] at hs
      refine Lab.Ev.done fun k => ?_
      simp only [soundingsref01_Short.l0]
      rw [if_pos (by omega), if_pos (by omega), hx]
      by_cases h1 : x.f0.size ≤ 400
      · rw [if_neg (by omega), if_pos (by omega)]
      · rw [if_pos (by omega)]
theorem short_ev (l : List Lb) (hl : l.length ≤ 9223372036854775807) : Lab.Ev (fun k => soundingsref01_Short.f k l) (shortB l) := short_l0 l hl l 0 rfl
theorem short_spec {l : List Lb} (h : shortB l = true) : l.length ≤ 40 ∧ ∀ x ∈ l, x.f0.size ≤ 400 ∧ x.f1.size ≤ 400 := by
  unfold shortB smallB at h
  rw [Bool.and_eq_true, List.all_eq_true, decide_eq_true_eq] at h
  exact ⟨h.2, fun x hx => by have := h.1 x hx; rw [Bool.and_eq_true, decide_eq_true_eq, decide_eq_true_eq] at this; exact this⟩
theorem ord_less (x y : Lb) : (Op.bytesLess x.f0.toList y.f0.toList = true ∨ x.f0.toList = y.f0.toList ∧ Op.bytesLess x.f1.toList y.f1.toList = true) ↔ ordL x y = -1 := by
  rw [less_is, less_is, toList_eq, decide_eq_true_eq, decide_eq_true_eq]
  unfold ordL ordS or2
  have h0 := Ord3.str.rng x.f0 y.f0
  have h1 := Ord3.str.rng x.f1 y.f1
  have e0 := Ord3.str.eq x.f0 y.f0
  by_cases hc : cmpS x.f0 y.f0 = 0
  · rw [if_pos hc]
    have := e0.1 hc
    constructor
    · rintro (h | h) <;> omega
    · intro h; exact Or.inr ⟨this, by omega⟩
  · rw [if_neg hc]
    constructor
    · rintro (h | ⟨h, _⟩)
      · omega
      · exact absurd (e0.2 h) hc
    · intro h; exact Or.inl (by omega)
theorem ord_zero (x y : Lb) : (!((x.f0.toList == y.f0.toList) && (x.f1.toList == y.f1.toList))) = decide (ordL x y ≠ 0) := by
  have h := ord_lb.eq x y
  by_cases hc : ordL x y = 0
  · have e := h.1 hc
    rw [decide_eq_false (by simpa using hc), e]
    simp
  · rw [decide_eq_true hc]
    have : ¬ (x.f0.toList = y.f0.toList ∧ x.f1.toList = y.f1.toList) := fun e => hc (h.2 (by
      have e1 := (toList_eq _ _).1 e.1
      have e2 := (toList_eq _ _).1 e.2
      cases x; cases y; simp only at e1 e2; rw [e1, e2]))
    rw [Bool.not_eq_true', Bool.eq_false_iff, Ne, Bool.and_eq_true, beq_iff_eq, beq_iff_eq]
    exact this
theorem refcmp_l0 (a b : List Lb) (ha : a.length ≤ 9223372036854775807) (r : List Lb) : ∀ j : Nat, a.drop j = r → j ≤ a.length → j ≤ b.length → Lab.Ev (fun k => soundingsref01_Cmp.l0 k a b (j : Int)) (cmpLs ordL r (b.drop j)) := by
  induction r with
  | nil =>
    intro j h hja hjb
    have hj := List.drop_eq_nil_iff.1 h
    have h1 : Lab.Ev (fun k => soundingsref01_Cmp.j1 k a b (j : Int) false) (cmpLs ordL [] (b.drop j)) := by
      rcases Nat.lt_or_ge j b.length with hb | hb
      · rw [List.drop_eq_getElem_cons hb]
        refine Lab.Ev.done fun k => ?_
        simp only [soundingsref01_Cmp.j1]
        rw [if_neg (by decide), if_pos (by omega)]
        rfl
      · rw [List.drop_eq_nil_of_le hb]
        refine Lab.Ev.done fun k => ?_
        simp only [soundingsref01_Cmp.j1]
        rw [if_neg (by decide), if_neg (by omega), if_neg (by omega)]
        rfl
    refine h1.step fun k => ?_
    simp only [soundingsref01_Cmp.l0]
    rw [if_neg (by omega)]
  | cons x r ih =>
    intro j h hja hjb
    obtain ⟨hj, h2, hx, _⟩ := drop_cons h
    rcases Nat.lt_or_ge j b.length with hb | hb
    · have hbd := List.drop_eq_getElem_cons hb
      obtain ⟨y, hy⟩ : ∃ y, y = b[j] := ⟨_, rfl⟩
      rw [← hy] at hbd
      have hyr : rd_T36 b (j : Int) = y := (drop_cons hbd).2.2.1
      have h3 := ih (j + 1) h2 (by omega) (by omega)
      have hj2 : Lab.Ev (fun k => soundingsref01_Cmp.j2 k a b (j : Int) (decide (ordL x y = -1))) (cmpLs ordL (x :: r) (b.drop j)) := by
        rw [hbd]
        simp only [cmpLs]
        have hr := ord_lb.rng x y
        by_cases hm : ordL x y = -1
        · rw [decide_eq_true hm, if_neg (by omega), hm]
          refine Lab.Ev.done fun k => ?_
          simp only [soundingsref01_Cmp.j2]
          rw [if_pos trivial]
        · rw [decide_eq_false hm]
          by_cases hz : ordL x y = 0
          · rw [if_pos hz]
            refine h3.step fun k => ?_
            simp only [soundingsref01_Cmp.j2]
            rw [if_neg (by decide), if_pos (by omega), if_pos (by omega), if_pos (by omega), hx, hyr, ← Bool.not_and, ord_zero, if_neg (by simpa using hz), wrap_succ2 hj ha]
          · rw [if_neg hz, show ordL x y = 1 by omega]
            refine Lab.Ev.done fun k => ?_
            simp only [soundingsref01_Cmp.j2]
            rw [if_neg (by decide), if_pos (by omega), if_pos (by omega), if_pos (by omega), hx, hyr, ← Bool.not_and, ord_zero, if_pos (by simpa using hz)]
      have hj1 : Lab.Ev (fun k => soundingsref01_Cmp.j1 k a b (j : Int) true) (cmpLs ordL (x :: r) (b.drop j)) := by
        refine hj2.step fun k => ?_
        simp only [soundingsref01_Cmp.j1]
        rw [if_pos trivial, if_pos (by omega), if_pos (by omega), if_pos (by omega), hx, hyr]
        have ho := ord_less x y
        by_cases c1 : Op.bytesLess x.f0.toList y.f0.toList = true
        · rw [if_pos c1, decide_eq_true (ho.1 (Or.inl c1))]
        · rw [if_neg c1]
          by_cases c2 : x.f0.toList = y.f0.toList
          · rw [if_pos c2]
            by_cases c3 : Op.bytesLess x.f1.toList y.f1.toList = true
            · rw [c3, decide_eq_true (ho.1 (Or.inr ⟨c2, c3⟩))]
            · rw [Bool.eq_false_iff.2 c3, decide_eq_false fun e => by rcases ho.2 e with h | h; exact c1 h; exact c3 h.2]
          · rw [if_neg c2, decide_eq_false fun e => by rcases ho.2 e with h | h; exact c1 h; exact c2 h.1]
      refine hj1.step fun k => ?_
      simp only [soundingsref01_Cmp.l0]
      rw [if_pos (by omega), decide_eq_true (by omega)]
    · rw [List.drop_eq_nil_of_le hb]
      have h1 : Lab.Ev (fun k => soundingsref01_Cmp.j1 k a b (j : Int) false) (cmpLs ordL (x :: r) []) := Lab.Ev.done fun k => by
        simp only [soundingsref01_Cmp.j1]
        rw [if_neg (by decide), if_neg (by omega), if_pos (by omega)]
        rfl
      refine h1.step fun k => ?_
      simp only [soundingsref01_Cmp.l0]
      rw [if_pos (by omega), decide_eq_false (by omega)]
theorem refcmp_ev (a b : List Lb) (ha : a.length ≤ 9223372036854775807) : Lab.Ev (fun k => soundingsref01_Cmp.f k a b) (cmpLs ordL a b) := by
  have := refcmp_l0 a b ha a 0 rfl (by omega) (by omega)
  rwa [List.drop_zero] at this

end Go.Proofs.YtmgbnnanophehabDoor.Lab
