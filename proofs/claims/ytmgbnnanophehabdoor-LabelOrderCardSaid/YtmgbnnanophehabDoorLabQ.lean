/- The reference's Make comes to what Make does; the answers that the document fixes. -/
import Derived.Test.YtmgbnnanophehabDoorLabL
import Derived.Test.YtmgbnnanophehabDoorLx42
import Derived.Test.YtmgbnnanophehabDoorLx49
namespace Go.Proofs.YtmgbnnanophehabDoor.Lab
open Go.Proofs Go.RowKit Go.Proofs.YtmgbnnanophehabDoor.Cmp Go.Proofs.YtmgbnnanophehabDoorW.PrintWords Go.Proofs.YtmgbnnanophehabDoorW.PrintLast Go.Proofs.YtmgbnnanophehabDoor.L
set_option linter.unusedVariables false
set_option linter.unusedSimpArgs false
def resM (r : List Lb × Option Int) : List Lb × Bool := (r.1, r.2.isNone)
theorem mk_l2 (l out : List Lb) (i : Nat) (hi : i < l.length) (hl : l.length ≤ 9223372036854775807) (ho : out.length ≤ 1000) (X : List Lb × Bool) : ∀ n : Nat, n ≤ out.length →
    Lab.Ev (fun k => soundingsref01_Make.l0 k l (out.take (atN l[i] out n) ++ l[i] :: out.drop (atN l[i] out n)) ((i + 1 : Nat) : Int)) X → Lab.Ev (fun k => soundingsref01_Make.l2 k l out (i : Int) (n : Int)) X := by
  have hx : rd_T36 l (i : Int) = l[i] := lb_rd l i hi
  have fin : ∀ n : Nat, n ≤ out.length → ∀ Y : Option (List Lb × Bool), ∀ k, soundingsref01_Make.l0 k l (out.take n ++ l[i] :: out.drop n) ((i + 1 : Nat) : Int) = Y →
      ((some (out.take ((n : Int)).toNat : List S36)).bind fun y170 => (if ([] : List S36).length + y170.length < 4398046511104 then ((some (([] : List S36) ++ y170 : List S36)).bind fun y174 => (if y174.length < 4398046511104 then ((some (y174 ++ [(⟨(l[i]).f0, (l[i]).f1⟩ : S36)] : List S36)).bind fun y178 => ((some (out.drop ((n : Int)).toNat : List S36)).bind fun y181 => (if y178.length + y181.length < 4398046511104 then (soundingsref01_Make.l0 k l (y178 ++ y181) (wrap64 ((i : Int) + 1))) else (none)))) else (none))) else (none))) = Y := by
    intro n hn Y k hY
    simp only [Option.bind_some, List.nil_append, List.length_nil, Nat.zero_add, Int.toNat_natCast, List.length_take, List.length_append, List.length_cons, List.length_drop]
    rw [if_pos (by omega), if_pos (by omega), if_pos (by omega), wrap_succ2 hi hl, List.append_assoc]
    exact hY
  intro n
  induction n with
  | zero =>
    intro _ hE
    refine hE.step fun k => ?_
    simp only [soundingsref01_Make.l2]
    rw [if_neg (by omega), if_pos (by omega), if_pos (by omega)]
    simp only [Option.bind_some, List.nil_append, List.length_nil, Nat.zero_add, Int.toNat_natCast, List.length_take, List.length_append, List.length_cons, List.length_drop]
    rw [if_pos (by omega), if_pos (by omega), if_pos (by omega), if_pos (by omega), if_pos (by omega), hx, wrap_succ2 hi hl, List.append_assoc]
    rfl
  | succ n ih =>
    intro hn hE
    have hw : Aside0 (wrap64 (((n + 1 : Nat) : Int) - 1) = (n : Int)) := ⟨by rw [wrap_pred (by omega) (by omega)]; rfl⟩
    have hy : rd_T36 out (n : Int) = out[n] := lb_rd out n (by omega)
    simp only [atN] at hE
    rw [List.getElem?_eq_getElem (by omega)] at hE
    simp only at hE
    by_cases hc : cmpS l[i].f0 out[n].f0 < 0
    · rw [if_pos (decide_eq_true hc)] at hE
      have h3 := ih (by omega) hE
      refine h3.step fun k => ?_
      simp only [soundingsref01_Make.l2]
      rw [if_pos (by omega), hw.out, if_pos (by omega), if_pos (by omega), if_pos (by omega), if_pos (by omega), hx, hy, if_pos (by rw [less_is]; exact decide_eq_true hc)]
    · rw [if_neg (by simpa using hc)] at hE
      refine hE.step fun k => ?_
      simp only [soundingsref01_Make.l2]
      rw [if_pos (by omega), hw.out, if_pos (by omega), if_pos (by omega), if_pos (by omega), if_pos (by omega), hx, hy, if_neg (by rw [less_is]; simpa using hc), if_pos (by omega), if_pos (by omega)]
      exact fin (n + 1) hn _ k rfl
theorem mk_l1 (l out : List Lb) (i : Nat) (hi : i < l.length) (hl : l.length ≤ 9223372036854775807) (X : List Lb × Bool)
    (hdup : ∀ m (hm : m < l.length), m < i → l[m].f0 = l[i].f0 → X = ([], false))
    (hgo : (∀ m (hm : m < l.length), m < i → l[m].f0 ≠ l[i].f0) → if full l[i] = true then Lab.Ev (fun k => soundingsref01_Make.l2 k l out (i : Int) (out.length : Int)) X else Lab.Ev (fun k => soundingsref01_Make.l0 k l out ((i + 1 : Nat) : Int)) X) :
    ∀ d j : Nat, j + d = i → (∀ m (hm : m < l.length), m < j → l[m].f0 ≠ l[i].f0) → Lab.Ev (fun k => soundingsref01_Make.l1 k l out (i : Int) (j : Int)) X := by
  have hx : rd_T36 l (i : Int) = l[i] := lb_rd l i hi
  intro d
  induction d with
  | zero =>
    intro j hj hne
    obtain rfl : j = i := by omega
    have hg := hgo hne
    by_cases hf : full l[j] = true
    · rw [if_pos hf] at hg
      refine hg.step fun k => ?_
      simp only [soundingsref01_Make.l1]
      rw [if_neg (by omega), if_pos (by omega), if_pos (by omega), hx, if_neg (fun e => by have := (full_is _).1 e; rw [hf] at this; cases this)]
    · rw [if_neg hf] at hg
      refine hg.step fun k => ?_
      simp only [soundingsref01_Make.l1]
      rw [if_neg (by omega), if_pos (by omega), if_pos (by omega), hx, if_pos ((full_is _).2 (Bool.eq_false_iff.2 hf)), wrap_succ2 hi hl]
  | succ d ih =>
    intro j hj hne
    have hjl : j < l.length := by omega
    have hyj : rd_T36 l (j : Int) = l[j] := lb_rd l j hjl
    by_cases he : l[j].f0 = l[i].f0
    · rw [hdup j hjl (by omega) he]
      refine Lab.Ev.done fun k => ?_
      simp only [soundingsref01_Make.l1]
      rw [if_pos (by omega), if_pos (by omega), if_pos (by omega), if_pos (by omega), if_pos (by omega), hx, hyj, if_pos ((toList_eq _ _).2 he)]
    · have h3 := ih (j + 1) (by omega) fun m hm hmj => by
        rcases Nat.lt_or_ge m j with h | h
        · exact hne m hm h
        · obtain rfl : m = j := by omega
          exact he
      refine h3.step fun k => ?_
      simp only [soundingsref01_Make.l1]
      rw [if_pos (by omega), if_pos (by omega), if_pos (by omega), if_pos (by omega), if_pos (by omega), hx, hyj, if_neg (fun e => he ((toList_eq _ _).1 e)), wrap_succ2 hjl hl]
theorem mk_l0 (l : List Lb) (hl : l.length ≤ 900) (hz : ∀ x ∈ l, x.f0.size ≤ 400 ∧ x.f1.size ≤ 400) (d : Nat) : ∀ (i : Nat) (out : List Lb), i + d = l.length → Good mayB (l.take i) → out.Perm ((l.take i).filter full) → SN out →
    Lab.Ev (fun k => soundingsref01_Make.l0 k l out (i : Int)) (resM (mkL mayB l)) := by
  induction d with
  | zero =>
    intro i out hi hg hp hs
    rw [List.take_of_length_le (by omega)] at hg hp
    refine Lab.Ev.done fun k => ?_
    simp only [soundingsref01_Make.l0]
    rw [if_neg (by omega)]
    by_cases h16 : out.length ≤ 16
    · rw [if_neg (by omega), mk_yes hg hp hs h16]; rfl
    · rw [if_pos (by omega), mk_no (Or.inr (by rw [← hp.length_eq]; omega))]; rfl
  | succ d ih =>
    intro i out hi hg hp hs
    have hil : i < l.length := by omega
    have hx : rd_T36 l (i : Int) = l[i] := lb_rd l i hil
    have hxz := hz l[i] (List.getElem_mem hil)
    have hol : out.length ≤ l.length := by
      rw [hp.length_eq]
      exact Nat.le_trans (List.length_filter_le _ _) (by rw [List.length_take]; omega)
    have hj1 : Lab.Ev (fun k => soundingsref01_Make.j1 k l out (i : Int) (!mayB l[i])) (resM (mkL mayB l)) := by
      cases hm : mayB l[i] with
      | false =>
        rw [mk_no (Or.inl fun g => by have := g.1 l[i] (List.getElem_mem hil); rw [hm] at this; cases this)]
        refine Lab.Ev.done fun k => ?_
        simp only [soundingsref01_Make.j1]
        rw [if_pos (show (!false) = true from rfl)]; rfl
      | true =>
        have h1 := mk_l1 l out i hil (by omega) (resM (mkL mayB l)) (fun m hml hmi he => by
          rw [mk_no (Or.inl fun g => ?_)]
          · rfl
          · exact (List.pairwise_iff_getElem.1 g.2) m i hml hil hmi he) (fun hne => by
            have hst := ins_step (may := mayB) hil hg hp hs hm fun k hk hki => hne k hk hki
            by_cases hf : full l[i] = true
            · rw [if_pos hf]
              refine mk_l2 l out i hil (by omega) (by omega) _ out.length (Nat.le_refl _) ?_
              exact ih (i + 1) _ (by omega) hst.1 (hst.2.2 hf).1 (hst.2.2 hf).2
            · rw [if_neg hf]
              exact ih (i + 1) out (by omega) hst.1 (hst.2.1 (Bool.eq_false_iff.2 hf)) hs) i 0 (by omega) (fun m _ h => by omega)
        refine h1.step fun k => ?_
        simp only [soundingsref01_Make.j1]
        rw [if_neg (by decide)]
        rfl
    have hn := refname_ev l[i].f0 (by omega)
    have hv := refval_ev l[i].f1
    cases hb : nameB l[i].f0 with
    | false =>
      have hm : mayB l[i] = false := by unfold mayB; rw [hb, Bool.false_and]
      rw [hm] at hj1
      rw [hb] at hn
      refine Lab.Ev.ask (g := fun t k => if t = true then ((soundingsref01_IsValue.f k l[i].f1).bind fun t146 => (soundingsref01_Make.j1 k l out (i : Int) (!t146))) else (soundingsref01_Make.j1 k l out (i : Int) true)) hn hj1 (fun k => ?_) (fun k => rfl)
      simp only [soundingsref01_Make.l0]
      rw [if_pos (by omega), if_pos (by omega), hx]
    | true =>
      have hm : mayB l[i] = valB l[i].f1 := by unfold mayB; rw [hb, Bool.true_and]
      rw [hm] at hj1
      rw [hb] at hn
      have hv2 : Lab.Ev (fun k => (soundingsref01_IsValue.f k l[i].f1).bind fun t146 => (soundingsref01_Make.j1 k l out (i : Int) (!t146))) (resM (mkL mayB l)) :=
        Lab.Ev.ask0 (g := fun t k => soundingsref01_Make.j1 k l out (i : Int) (!t)) hv hj1 (fun k => rfl) (fun k => rfl)
      refine Lab.Ev.ask (g := fun t k => if t = true then ((soundingsref01_IsValue.f k l[i].f1).bind fun t146 => (soundingsref01_Make.j1 k l out (i : Int) (!t146))) else (soundingsref01_Make.j1 k l out (i : Int) true)) hn hv2 (fun k => ?_) (fun k => if_pos rfl)
      simp only [soundingsref01_Make.l0]
      rw [if_pos (by omega), if_pos (by omega), hx]
theorem refmake_ev (l : List Lb) (hl : l.length ≤ 900) (hz : ∀ x ∈ l, x.f0.size ≤ 400 ∧ x.f1.size ≤ 400) : Lab.Ev (fun k => soundingsref01_Make.f k l) (resM (mkL mayB l)) :=
  mk_l0 l hl hz l.length 0 [] (by omega) ⟨by simp, by simp⟩ (by simp) List.Pairwise.nil

/-! ### the answers that the document fixes -/
def la : Lb := ⟨⟨#[97]⟩, ⟨#[49]⟩⟩
def lb : Lb := ⟨⟨#[98]⟩, ⟨#[50]⟩⟩
def lc : Lb := ⟨⟨#[99]⟩, ⟨#[]⟩⟩
def l2 : Lb := ⟨⟨#[50, 98]⟩, ⟨#[50]⟩⟩
theorem awake1 : mkL mayB [lb, la, lc] = ([la, lb], none) := by
  refine mk_yes ⟨fun y hy => ?_, ?_⟩ ?_ ?_ (by decide)
  · simp only [List.mem_cons, List.mem_nil_iff, or_false] at hy
    rcases hy with rfl | rfl | rfl <;> decide +kernel
  · rw [List.pairwise_cons, List.pairwise_cons]
    refine ⟨fun y hy => ?_, fun y hy => ?_, by simp⟩
    · simp only [List.mem_cons, List.mem_nil_iff, or_false] at hy
      rcases hy with rfl | rfl <;> decide
    · simp only [List.mem_cons, List.mem_nil_iff, or_false] at hy
      rcases hy with rfl; decide
  · have f1 : full lb = true := by decide
    have f2 : full la = true := by decide
    have f3 : full lc = false := by decide
    have : [lb, la, lc].filter full = [lb, la] := by simp [List.filter_cons, f1, f2, f3]
    rw [this]
    exact List.Perm.swap _ _ _
  · unfold SN
    rw [List.pairwise_cons]
    refine ⟨fun y hy => ?_, by simp⟩
    simp only [List.mem_cons, List.mem_nil_iff, or_false] at hy
    rcases hy with rfl; decide
theorem awake2 : mkL mayB [l2] = ([], some 1) := mk_no (Or.inl fun g => by
  have := g.1 l2 (by simp)
  have h2 : mayB l2 = false := by decide +kernel
  rw [h2] at this; cases this)
theorem awake_ev : Lab.Ev (fun k => soundingslaw01_awake.f k) true := by
  have n1 := name_ev ⟨#[95, 49]⟩
  have n2 := name_ev ⟨#[49, 95]⟩
  rw [show nameB ⟨#[95, 49]⟩ = true by decide +kernel] at n1
  rw [show nameB ⟨#[49, 95]⟩ = false by decide +kernel] at n2
  obtain ⟨K1, h1⟩ := n1
  obtain ⟨K2, h2⟩ := n2
  have m1 : label_Make.f [lb, la, lc] = some ([la, lb], none) := by unfold label_Make.f; rw [if_pos (by decide), awake1]
  have m2 : label_Make.f [l2] = some ([], some 1) := by unfold label_Make.f; rw [if_pos (by decide), awake2]
  refine ⟨max K1 K2, fun k hk => ?_⟩
  unfold soundingslaw01_awake.f
  show (label_Make.f [lb, la, lc]).bind _ = _
  rw [m1]
  simp only [Option.bind_some]
  show (label_Make.f [l2]).bind _ = _
  rw [m2]
  simp only [Option.bind_some, Option.isNone_none, if_true]
  rw [if_pos (by rfl), if_pos (by decide), if_pos (by rw [Lib.toList_data, Lib.toList_data]; decide)]
  show (some (1 : Int)).bind _ = _
  simp only [Option.bind_some, if_true]
  rw [show label_IsName.f k ⟨#[95, 49]⟩ = some true from h1 k (by omega)]
  simp only [Option.bind_some, if_true]
  rw [show label_IsName.f k ⟨#[49, 95]⟩ = some false from h2 k (by omega)]
  rfl
theorem ord_ls : Ord3 (cmpLs ordL) := ord_lb.list
theorem make_is (l : List Lb) (h : l.length ≤ 900) : label_Make.f l = some (mkL mayB l) := by
  unfold label_Make.f; rw [if_pos (by omega)]
theorem code_one : soundingslaw01_Code.f (some 1) = some 1 := rfl
theorem code_nil : soundingslaw01_Code.f none = some 0 := rfl
end Go.Proofs.YtmgbnnanophehabDoor.Lab
