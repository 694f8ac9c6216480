/- The reference's labels come to what the program's do: lists alone. label.Make, Code: what they are, in short. The reference's Make comes to what Make does. -/
import Derived.Test.YtlelcmkbcejjkaaDoorLabH
import Derived.Test.YtlelcmkbcejjkaaDoorLx63
import Derived.Test.YtlelcmkbcejjkaaDoorLx72
import Derived.Test.YtlelcmkbcejjkaaDoorLx71
namespace Go.Proofs.YtlelcmkbcejjkaaDoor.Lab
open Go.Proofs Go.RowKit Go.Proofs.YtlelcmkbcejjkaaDoor.Cmp Go.Proofs.YtlelcmkbcejjkaaDoorW.PrintWords Go.Proofs.YtlelcmkbcejjkaaDoorW.PrintLast Go.Proofs.YtlelcmkbcejjkaaDoor.L
set_option linter.unusedVariables false
set_option linter.unusedSimpArgs false
theorem wrap_succ2 {i n : Nat} (h : i < n) (hn : n ≤ 9223372036854775807) : wrap64 ((i : Int) + 1) = ((i + 1 : Nat) : Int) := by unfold wrap64; omega
theorem drop_cons {l : List Lb} {j : Nat} {x : Lb} {r : List Lb} (h : l.drop j = x :: r) : j < l.length ∧ l.drop (j + 1) = r ∧ rd_T67 l (j : Int) = x ∧ l[j]? = some x := by
  have hj : j < l.length := by
    rcases Nat.lt_or_ge j l.length with h1 | h1
    · exact h1
    · rw [List.drop_eq_nil_of_le h1] at h; cases h
  have he := List.drop_eq_getElem_cons hj
  rw [h] at he
  exact ⟨hj, (List.cons.inj he).2.symm, by rw [lb_rd l j hj]; exact (List.cons.inj he).1.symm, by rw [List.getElem?_eq_getElem hj, (List.cons.inj he).1]⟩
def smallB (x : Lb) : Bool := decide (x.f0.size ≤ 400) && decide (x.f1.size ≤ 400)
def shortB (l : List Lb) : Bool := l.all smallB && decide (l.length ≤ 40)
theorem short_l0 (l : List Lb) (hl : l.length ≤ 9223372036854775807) (r : List Lb) : ∀ j : Nat, l.drop j = r → Lab.Ev (fun k => soundingsref01_Short.l0 k l (j : Int)) (r.all smallB && decide (l.length ≤ 40)) := by
  induction r with
  | nil =>
    intro j h
    have hj := List.drop_eq_nil_iff.1 h
    refine Lab.Ev.done fun k => ?_
    simp only [soundingsref01_Short.l0]
    rw [if_neg (by omega), List.all_nil, Bool.true_and]
    exact congrArg some (decide_eq_decide.2 (by omega))
  | cons x r ih =>
    intro j h
    obtain ⟨hj, h2, hx, _⟩ := drop_cons h
    have h3 := ih (j + 1) h2
    by_cases hs : smallB x = true
    · rw [List.all_cons, hs, Bool.true_and]
      unfold smallB at hs
      rw [Bool.and_eq_true, decide_eq_true_eq, decide_eq_true_eq] at hs
      refine h3.step fun k => ?_
      simp only [soundingsref01_Short.l0]
      rw [if_pos (by omega), if_pos (by omega), hx, if_neg (by omega), if_neg (by omega), wrap_succ2 hj hl]
    · rw [List.all_cons, Bool.eq_false_iff.2 hs, Bool.false_and, Bool.false_and]
      unfold smallB at hs
      rw [Bool.and_eq_true, decide_eq_true_eq, decide_eq_true_eq] at hs
      refine Lab.Ev.done fun k => ?_
      simp only [soundingsref01_Short.l0]
      rw [if_pos (by omega), if_pos (by omega), hx]
      by_cases h1 : x.f0.size ≤ 400
      · rw [if_neg (by omega), if_pos (by omega)]
      · rw [if_pos (by omega)]
theorem short_ev (l : List Lb) (hl : l.length ≤ 9223372036854775807) : Lab.Ev (fun k => soundingsref01_Short.f k l) (shortB l) := short_l0 l hl l 0 rfl
theorem short_spec {l : List Lb} (h : shortB l = true) : l.length ≤ 40 ∧ ∀ x ∈ l, x.f0.size ≤ 400 ∧ x.f1.size ≤ 400 := by
  unfold shortB smallB at h
  rw [Bool.and_eq_true, List.all_eq_true, decide_eq_true_eq] at h
  exact ⟨h.2, fun x hx => by have := h.1 x hx; rw [Bool.and_eq_true, decide_eq_true_eq, decide_eq_true_eq] at this; exact this⟩
theorem ord_less (x y : Lb) : (Op.bytesLess x.f0.toList y.f0.toList = true ∨ x.f0.toList = y.f0.toList ∧ Op.bytesLess x.f1.toList y.f1.toList = true) ↔ ordL x y = -1 := by
  rw [less_is, less_is, toList_eq, decide_eq_true_eq, decide_eq_true_eq]
  unfold ordL ordS or2
  have h0 := Ord3.str.rng x.f0 y.f0
  have h1 := Ord3.str.rng x.f1 y.f1
  have e0 := Ord3.str.eq x.f0 y.f0
  by_cases hc : cmpS x.f0 y.f0 = 0
  · rw [if_pos hc]
    have := e0.1 hc
    constructor
    · rintro (h | h) <;> omega
    · intro h; exact Or.inr ⟨this, by omega⟩
  · rw [if_neg hc]
    constructor
    · rintro (h | ⟨h, _⟩)
      · omega
      · exact absurd (e0.2 h) hc
    · intro h; exact Or.inl (by omega)
theorem ord_zero (x y : Lb) : (!((x.f0.toList == y.f0.toList) && (x.f1.toList == y.f1.toList))) = decide (ordL x y ≠ 0) := by
  have h := ord_lb.eq x y
  by_cases hc : ordL x y = 0
  · have e := h.1 hc
    rw [decide_eq_false (by simpa using hc), e]
    simp
  · rw [decide_eq_true hc]
    have : ¬ (x.f0.toList = y.f0.toList ∧ x.f1.toList = y.f1.toList) := fun e => hc (h.2 (by
      have e1 := (toList_eq _ _).1 e.1
      have e2 := (toList_eq _ _).1 e.2
      cases x; cases y; simp only at e1 e2; rw [e1, e2]))
    rw [Bool.not_eq_true', Bool.eq_false_iff, Ne, Bool.and_eq_true, beq_iff_eq, beq_iff_eq]
    exact this
theorem refcmp_l0 (a b : List Lb) (ha : a.length ≤ 9223372036854775807) (r : List Lb) : ∀ j : Nat, a.drop j = r → j ≤ a.length → j ≤ b.length → Lab.Ev (fun k => soundingsref01_Cmp.l0 k a b (j : Int)) (cmpLs ordL r (b.drop j)) := by
  induction r with
  | nil =>
    intro j h hja hjb
    have hj := List.drop_eq_nil_iff.1 h
    have h1 : Lab.Ev (fun k => soundingsref01_Cmp.j1 k a b (j : Int) false) (cmpLs ordL [] (b.drop j)) := by
      rcases Nat.lt_or_ge j b.length with hb | hb
      · rw [List.drop_eq_getElem_cons hb]
        refine Lab.Ev.done fun k => ?_
        simp only [soundingsref01_Cmp.j1]
        rw [if_neg (by decide), if_pos (by omega)]
        rfl
      · rw [List.drop_eq_nil_of_le hb]
        refine Lab.Ev.done fun k => ?_
        simp only [soundingsref01_Cmp.j1]
        rw [if_neg (by decide), if_neg (by omega), if_neg (by omega)]
        rfl
    refine h1.step fun k => ?_
    simp only [soundingsref01_Cmp.l0]
    rw [if_neg (by omega)]
  | cons x r ih =>
    intro j h hja hjb
    obtain ⟨hj, h2, hx, _⟩ := drop_cons h
    rcases Nat.lt_or_ge j b.length with hb | hb
    · have hbd := List.drop_eq_getElem_cons hb
      obtain ⟨y, hy⟩ : ∃ y, y = b[j] := ⟨_, rfl⟩
      rw [← hy] at hbd
      have hyr : rd_T67 b (j : Int) = y := (drop_cons hbd).2.2.1
      have h3 := ih (j + 1) h2 (by omega) (by omega)
      have hj2 : Lab.Ev (fun k => soundingsref01_Cmp.j2 k a b (j : Int) (decide (ordL x y = -1))) (cmpLs ordL (x :: r) (b.drop j)) := by
        rw [hbd]
        simp only [cmpLs]
        have hr := ord_lb.rng x y
        by_cases hm : ordL x y = -1
        · rw [decide_eq_true hm, if_neg (by omega), hm]
          refine Lab.Ev.done fun k => ?_
          simp only [soundingsref01_Cmp.j2]
          rw [if_pos trivial]
        · rw [decide_eq_false hm]
          by_cases hz : ordL x y = 0
          · rw [if_pos hz]
            refine h3.step fun k => ?_
            simp only [soundingsref01_Cmp.j2]
            rw [if_neg (by decide), if_pos (by omega), if_pos (by omega), if_pos (by omega), hx, hyr, ← Bool.not_and, ord_zero, if_neg (by simpa using hz), wrap_succ2 hj ha]
          · rw [if_neg hz, show ordL x y = 1 by omega]
            refine Lab.Ev.done fun k => ?_
            simp only [soundingsref01_Cmp.j2]
            rw [if_neg (by decide), if_pos (by omega), if_pos (by omega), if_pos (by omega), hx, hyr, ← Bool.not_and, ord_zero, if_pos (by simpa using hz)]
      have hj1 : Lab.Ev (fun k => soundingsref01_Cmp.j1 k a b (j : Int) true) (cmpLs ordL (x :: r) (b.drop j)) := by
        refine hj2.step fun k => ?_
        simp only [soundingsref01_Cmp.j1]
        rw [if_pos trivial, if_pos (by omega), if_pos (by omega), if_pos (by omega), hx, hyr]
        have ho := ord_less x y
        by_cases c1 : Op.bytesLess x.f0.toList y.f0.toList = true
        · rw [if_pos c1, decide_eq_true (ho.1 (Or.inl c1))]
        · rw [if_neg c1]
          by_cases c2 : x.f0.toList = y.f0.toList
          · rw [if_pos c2]
            by_cases c3 : Op.bytesLess x.f1.toList y.f1.toList = true
            · rw [c3, decide_eq_true (ho.1 (Or.inr ⟨c2, c3⟩))]
            · rw [Bool.eq_false_iff.2 c3, decide_eq_false fun e => by rcases ho.2 e with h | h; exact c1 h; exact c3 h.2]
          · rw [if_neg c2, decide_eq_false fun e => by rcases ho.2 e with h | h; exact c1 h; exact c2 h.1]
      refine hj1.step fun k => ?_
      simp only [soundingsref01_Cmp.l0]
      rw [if_pos (by omega), decide_eq_true (by omega)]
    · rw [List.drop_eq_nil_of_le hb]
      have h1 : Lab.Ev (fun k => soundingsref01_Cmp.j1 k a b (j : Int) false) (cmpLs ordL (x :: r) []) := Lab.Ev.done fun k => by
        simp only [soundingsref01_Cmp.j1]
        rw [if_neg (by decide), if_neg (by omega), if_pos (by omega)]
        rfl
      refine h1.step fun k => ?_
      simp only [soundingsref01_Cmp.l0]
      rw [if_pos (by omega), decide_eq_false (by omega)]
theorem refcmp_ev (a b : List Lb) (ha : a.length ≤ 9223372036854775807) : Lab.Ev (fun k => soundingsref01_Cmp.f k a b) (cmpLs ordL a b) := by
  have := refcmp_l0 a b ha a 0 rfl (by omega) (by omega)
  rwa [List.drop_zero] at this

end Go.Proofs.YtlelcmkbcejjkaaDoor.Lab
namespace Go.Proofs.YtlelcmkbcejjkaaDoor.Lab
open Go.Proofs Go.RowKit Go.Proofs.YtlelcmkbcejjkaaDoor.Cmp Go.Proofs.YtlelcmkbcejjkaaDoorW.PrintWords Go.Proofs.YtlelcmkbcejjkaaDoorW.PrintLast Go.Proofs.YtlelcmkbcejjkaaDoor.L
theorem ord_ls : Ord3 (cmpLs ordL) := ord_lb.list
theorem make_is (l : List Lb) (h : l.length ≤ 900) : label_Make.f l = some (mkL mayB l) := by
  unfold label_Make.f; rw [if_pos (by omega)]
theorem code_one : soundingslaw01_Code.f (some 1) = some 1 := rfl
theorem code_nil : soundingslaw01_Code.f none = some 0 := rfl
end Go.Proofs.YtlelcmkbcejjkaaDoor.Lab
namespace Go.Proofs.YtlelcmkbcejjkaaDoor.Lab
open Go.Proofs Go.RowKit Go.Proofs.YtlelcmkbcejjkaaDoor.Cmp Go.Proofs.YtlelcmkbcejjkaaDoorW.PrintWords Go.Proofs.YtlelcmkbcejjkaaDoorW.PrintLast Go.Proofs.YtlelcmkbcejjkaaDoor.L
set_option linter.unusedVariables false
set_option linter.unusedSimpArgs false
def resM (r : List Lb × Option Int) : List Lb × Bool := (r.1, r.2.isNone)
theorem mk_l2 (l out : List Lb) (i : Nat) (hi : i < l.length) (hl : l.length ≤ 9223372036854775807) (ho : out.length ≤ 1000) (X : List Lb × Bool) : ∀ n : Nat, n ≤ out.length →
    Lab.Ev (fun k => soundingsref01_Make.l0 k l (out.take (atN l[i] out n) ++ l[i] :: out.drop (atN l[i] out n)) ((i + 1 : Nat) : Int)) X → Lab.Ev (fun k => soundingsref01_Make.l2 k l out (i : Int) (n : Int)) X := by
  have hx : rd_T67 l (i : Int) = l[i] := lb_rd l i hi
  have fin : ∀ n : Nat, n ≤ out.length → ∀ Y : Option (List Lb × Bool), ∀ k, soundingsref01_Make.l0 k l (out.take n ++ l[i] :: out.drop n) ((i + 1 : Nat) : Int) = Y →
      ((some (out.take ((n : Int)).toNat : List S67)).bind fun y170 => (if ([] : List S67).length + y170.length < 4398046511104 then ((some (([] : List S67) ++ y170 : List S67)).bind fun y174 => (if y174.length < 4398046511104 then ((some (y174 ++ [(⟨(l[i]).f0, (l[i]).f1⟩ : S67)] : List S67)).bind fun y178 => ((some (out.drop ((n : Int)).toNat : List S67)).bind fun y181 => (if y178.length + y181.length < 4398046511104 then (soundingsref01_Make.l0 k l (y178 ++ y181) (wrap64 ((i : Int) + 1))) else (none)))) else (none))) else (none))) = Y := by
    intro n hn Y k hY
    simp only [Option.bind_some, List.nil_append, List.length_nil, Nat.zero_add, Int.toNat_natCast, List.length_take, List.length_append, List.length_cons, List.length_drop]
    rw [if_pos (by omega), if_pos (by omega), if_pos (by omega), wrap_succ2 hi hl, List.append_assoc]
    exact hY
  intro n
  induction n with
  | zero =>
    intro _ hE
    refine hE.step fun k => ?_
    simp only [soundingsref01_Make.l2]
    rw [if_neg (by omega), if_pos (by omega), if_pos (by omega)]
    simp only [Option.bind_some, List.nil_append, List.length_nil, Nat.zero_add, Int.toNat_natCast, List.length_take, List.length_append, List.length_cons, List.length_drop]
    rw [if_pos (by omega), if_pos (by omega), if_pos (by omega), if_pos (by omega), if_pos (by omega), hx, wrap_succ2 hi hl, List.append_assoc]
    rfl
  | succ n ih =>
    intro hn hE
    have hw : Aside0 (wrap64 (((n + 1 : Nat) : Int) - 1) = (n : Int)) := ⟨by rw [wrap_pred (by omega) (by omega)]; rfl⟩
    have hy : rd_T67 out (n : Int) = out[n] := lb_rd out n (by omega)
    simp only [atN] at hE
    rw [List.getElem?_eq_getElem (by omega)] at hE
    simp only at hE
    by_cases hc : cmpS l[i].f0 out[n].f0 < 0
    · rw [if_pos (decide_eq_true hc)] at hE
      have h3 := ih (by omega) hE
      refine h3.step fun k => ?_
      simp only [soundingsref01_Make.l2]
      rw [if_pos (by omega), hw.out, if_pos (by omega), if_pos (by omega), if_pos (by omega), if_pos (by omega), hx, hy, if_pos (by rw [less_is]; exact decide_eq_true hc)]
    · rw [if_neg (by simpa using hc)] at hE
      refine hE.step fun k => ?_
      simp only [soundingsref01_Make.l2]
      rw [if_pos (by omega), hw.out, if_pos (by omega), if_pos (by omega), if_pos (by omega), if_pos (by omega), hx, hy, if_neg (by rw [less_is]; simpa using hc), if_pos (by omega), if_pos (by omega)]
      exact fin (n + 1) hn _ k rfl
theorem mk_l1 (l out : List Lb) (i : Nat) (hi : i < l.length) (hl : l.length ≤ 9223372036854775807) (X : List Lb × Bool)
    (hdup : ∀ m (hm : m < l.length), m < i → l[m].f0 = l[i].f0 → X = ([], false))
    (hgo : (∀ m (hm : m < l.length), m < i → l[m].f0 ≠ l[i].f0) → if full l[i] = true then Lab.Ev (fun k => soundingsref01_Make.l2 k l out (i : Int) (out.length : Int)) X else Lab.Ev (fun k => soundingsref01_Make.l0 k l out ((i + 1 : Nat) : Int)) X) :
    ∀ d j : Nat, j + d = i → (∀ m (hm : m < l.length), m < j → l[m].f0 ≠ l[i].f0) → Lab.Ev (fun k => soundingsref01_Make.l1 k l out (i : Int) (j : Int)) X := by
  have hx : rd_T67 l (i : Int) = l[i] := lb_rd l i hi
  intro d
  induction d with
  | zero =>
    intro j hj hne
    obtain rfl : j = i := by omega
    have hg := hgo hne
    by_cases hf : full l[j] = true
    · rw [if_pos hf] at hg
      refine hg.step fun k => ?_
      simp only [soundingsref01_Make.l1]
      rw [if_neg (by omega), if_pos (by omega), if_pos (by omega), hx, if_neg (fun e => by have := (full_is _).1 e; rw [hf] at this; cases this)]
    · rw [if_neg hf] at hg
      refine hg.step fun k => ?_
      simp only [soundingsref01_Make.l1]
      rw [if_neg (by omega), if_pos (by omega), if_pos (by omega), hx, if_pos ((full_is _).2 (Bool.eq_false_iff.2 hf)), wrap_succ2 hi hl]
  | succ d ih =>
    intro j hj hne
    have hjl : j < l.length := by omega
    have hyj : rd_T67 l (j : Int) = l[j] := lb_rd l j hjl
    by_cases he : l[j].f0 = l[i].f0
    · rw [hdup j hjl (by omega) he]
      refine Lab.Ev.done fun k => ?_
      simp only [soundingsref01_Make.l1]
      rw [if_pos (by omega), if_pos (by omega), if_pos (by omega), if_pos (by omega), if_pos (by omega), hx, hyj, if_pos ((toList_eq _ _).2 he)]
    · have h3 := ih (j + 1) (by omega) fun m hm hmj => by
        rcases Nat.lt_or_ge m j with h | h
        · exact hne m hm h
        · obtain rfl : m = j := by omega
          exact he
      refine h3.step fun k => ?_
      simp only [soundingsref01_Make.l1]
      rw [if_pos (by omega), if_pos (by omega), if_pos (by omega), if_pos (by omega), if_pos (by omega), hx, hyj, if_neg (fun e => he ((toList_eq _ _).1 e)), wrap_succ2 hjl hl]
theorem mk_l0 (l : List Lb) (hl : l.length ≤ 900) (hz : ∀ x ∈ l, x.f0.size ≤ 400 ∧ x.f1.size ≤ 400) (d : Nat) : ∀ (i : Nat) (out : List Lb), i + d = l.length → Good mayB (l.take i) → out.Perm ((l.take i).filter full) → SN out →
    Lab.Ev (fun k => soundingsref01_Make.l0 k l out (i : Int)) (resM (mkL mayB l)) := by
  induction d with
  | zero =>
    intro i out hi hg hp hs
    rw [List.take_of_length_le (by omega)] at hg hp
    refine Lab.Ev.done fun k => ?_
    simp only [soundingsref01_Make.l0]
    rw [if_neg (by omega)]
    by_cases h16 : out.length ≤ 16
    · rw [if_neg (by omega), mk_yes hg hp hs h16]; rfl
    · rw [if_pos (by omega), mk_no (Or.inr (by rw [← hp.length_eq]; omega))]; rfl
  | succ d ih =>
    intro i out hi hg hp hs
    have hil : i < l.length := by omega
    have hx : rd_T67 l (i : Int) = l[i] := lb_rd l i hil
    have hxz := hz l[i] (List.getElem_mem hil)
    have hol : out.length ≤ l.length := by
      rw [hp.length_eq]
      exact Nat.le_trans (List.length_filter_le _ _) (by rw [List.length_take]; omega)
    have hj1 : Lab.Ev (fun k => soundingsref01_Make.j1 k l out (i : Int) (!mayB l[i])) (resM (mkL mayB l)) := by
      cases hm : mayB l[i] with
      | false =>
        rw [mk_no (Or.inl fun g => by have := g.1 l[i] (List.getElem_mem hil); rw [hm] at this; cases this)]
        refine Lab.Ev.done fun k => ?_
        simp only [soundingsref01_Make.j1]
        rw [if_pos (show (!false) = true from rfl)]; rfl
      | true =>
        have h1 := mk_l1 l out i hil (by omega) (resM (mkL mayB l)) (fun m hml hmi he => by
          rw [mk_no (Or.inl fun g => ?_)]
          · rfl
          · exact (List.pairwise_iff_getElem.1 g.2) m i hml hil hmi he) (fun hne => by
            have hst := ins_step (may := mayB) hil hg hp hs hm fun k hk hki => hne k hk hki
            by_cases hf : full l[i] = true
            · rw [if_pos hf]
              refine mk_l2 l out i hil (by omega) (by omega) _ out.length (Nat.le_refl _) ?_
              exact ih (i + 1) _ (by omega) hst.1 (hst.2.2 hf).1 (hst.2.2 hf).2
            · rw [if_neg hf]
              exact ih (i + 1) out (by omega) hst.1 (hst.2.1 (Bool.eq_false_iff.2 hf)) hs) i 0 (by omega) (fun m _ h => by omega)
        refine h1.step fun k => ?_
        simp only [soundingsref01_Make.j1]
        rw [if_neg (by decide)]
        rfl
    have hn := refname_ev l[i].f0 (by omega)
    have hv := refval_ev l[i].f1
    cases hb : nameB l[i].f0 with
    | false =>
      have hm : mayB l[i] = false := by unfold mayB; rw [hb, Bool.false_and]
      rw [hm] at hj1
      rw [hb] at hn
      refine Lab.Ev.ask (g := fun t k => if t = true then ((soundingsref01_IsValue.f k l[i].f1).bind fun t146 => (soundingsref01_Make.j1 k l out (i : Int) (!t146))) else (soundingsref01_Make.j1 k l out (i : Int) true)) hn hj1 (fun k => ?_) (fun k => rfl)
      simp only [soundingsref01_Make.l0]
      rw [if_pos (by omega), if_pos (by omega), hx]
    | true =>
      have hm : mayB l[i] = valB l[i].f1 := by unfold mayB; rw [hb, Bool.true_and]
      rw [hm] at hj1
      rw [hb] at hn
      have hv2 : Lab.Ev (fun k => (soundingsref01_IsValue.f k l[i].f1).bind fun t146 => (soundingsref01_Make.j1 k l out (i : Int) (!t146))) (resM (mkL mayB l)) :=
        Lab.Ev.ask0 (g := fun t k => soundingsref01_Make.j1 k l out (i : Int) (!t)) hv hj1 (fun k => rfl) (fun k => rfl)
      refine Lab.Ev.ask (g := fun t k => if t = true then ((soundingsref01_IsValue.f k l[i].f1).bind fun t146 => (soundingsref01_Make.j1 k l out (i : Int) (!t146))) else (soundingsref01_Make.j1 k l out (i : Int) true)) hn hv2 (fun k => ?_) (fun k => if_pos rfl)
      simp only [soundingsref01_Make.l0]
      rw [if_pos (by omega), if_pos (by omega), hx]
theorem refmake_ev (l : List Lb) (hl : l.length ≤ 900) (hz : ∀ x ∈ l, x.f0.size ≤ 400 ∧ x.f1.size ≤ 400) : Lab.Ev (fun k => soundingsref01_Make.f k l) (resM (mkL mayB l)) :=
  mk_l0 l hl hz l.length 0 [] (by omega) ⟨by simp, by simp⟩ (by simp) List.Pairwise.nil

end Go.Proofs.YtlelcmkbcejjkaaDoor.Lab
