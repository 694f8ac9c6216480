/- Names, values, right labels: the program's and the reference's, in plain Lean. -/
import Derived.Test.YtlelcmkbcejjkaaDoorLabA
import Derived.Test.YtlelcmkbcejjkaaDoorLabV
import Derived.Test.YtlelcmkbcejjkaaDoorLx20
import Derived.Test.YtlelcmkbcejjkaaDoorLx66
import Derived.Test.YtlelcmkbcejjkaaDoorLx70
namespace Go.Proofs.YtlelcmkbcejjkaaDoor.Lab
open Go.Proofs Go.RowKit Go.Proofs.YtlelcmkbcejjkaaDoor.Cmp Go.Proofs.YtlelcmkbcejjkaaDoorW.PrintWords Go.Proofs.YtlelcmkbcejjkaaDoorW.PrintLast Go.Proofs.YtlelcmkbcejjkaaDoor.L
set_option linter.unusedVariables false
set_option linter.unusedSimpArgs false
def letN (n : Nat) : Prop := n = 95 ∨ (97 ≤ n ∧ n ≤ 122) ∨ (65 ≤ n ∧ n ≤ 90) ∨ (48 ≤ n ∧ n ≤ 57)
instance (n : Nat) : Decidable (letN n) := inferInstanceAs (Decidable (_ ∨ _))
def headOK : List UInt8 → Bool
  | [] => false
  | c :: _ => decide (¬ (48 ≤ c.toNat ∧ c.toNat ≤ 57))
def nameL (l : List UInt8) : Bool := headOK l && decide (l.length ≤ 200) && l.all (fun c => decide (letN c.toNat))
def nameB (s : ByteArray) : Bool := nameL s.data.toList
def valB (s : ByteArray) : Bool := decide (s.size ≤ 200) && Lib.validD s.data.toList
def mayB (x : Lb) : Bool := nameB x.f0 && valB x.f1

theorem letter_is (n : Nat) : label_letter.f (n : Int) = some (decide (letN n)) := by
  unfold label_letter.f
  repeat' split
  all_goals first
    | exact congrArg some (decide_eq_true (show letN n by unfold letN; omega)).symm
    | exact congrArg some (decide_eq_false (show ¬ letN n by unfold letN; omega)).symm
    | exact congrArg some (decide_eq_decide.2 (show _ ↔ letN n by unfold letN; omega))
theorem name_l0 (s : ByteArray) (hs : s.size < 4611686018427387904) (l : List UInt8) : ∀ i : Nat, s.data.toList.drop i = l →
    Ev (fun k => label_IsName.l0 k s (s.size : Int) (i : Int)) (l.all (fun c => decide (letN c.toNat))) := by
  induction l with
  | nil =>
    intro i h
    have := drop_nil h
    refine Ev.done fun k => ?_
    simp only [label_IsName.l0]
    rw [if_neg (by omega)]; rfl
  | cons c r ih =>
    intro i h
    obtain ⟨hb, hi, hr⟩ := bt_drop h
    by_cases hc : letN c.toNat
    · have h3 := ih (i + 1) hr
      rw [List.all_cons, decide_eq_true hc, Bool.true_and]
      refine h3.step fun k => ?_
      simp only [label_IsName.l0]
      rw [if_pos (by omega), if_pos (by omega), if_pos (by omega), hb, letter_is, decide_eq_true hc, wrap_succ hi hs]
      rfl
    · rw [List.all_cons, decide_eq_false hc, Bool.false_and]
      refine Ev.done fun k => ?_
      simp only [label_IsName.l0]
      rw [if_pos (by omega), if_pos (by omega), if_pos (by omega), hb, letter_is, decide_eq_false hc]
      rfl
theorem name_ev (s : ByteArray) : Ev (fun k => label_IsName.f k s) (nameB s) := by
  have hj : ∀ (k : Nat), label_IsName.j0 (k + 1) s true = some false := fun k => by simp only [label_IsName.j0]; rw [if_pos trivial]
  unfold nameB
  cases hl : s.data.toList with
  | nil =>
    have h0 : s.size = 0 := by rw [← len_data, hl]; rfl
    refine Ev.done fun k => ?_
    simp only [label_IsName.f]
    rw [if_pos ((toList_nil s).2 h0), hj]; rfl
  | cons c r =>
    have h1 : s.size = r.length + 1 := by rw [← len_data, hl]; rfl
    obtain ⟨hb, hi, hr⟩ := bt_drop (s := s) (i := 0) hl
    have hb' : bt s 0 = (c.toNat : Int) := hb
    by_cases h200 : 200 < s.size
    · have e : nameL (c :: r) = false := by
        unfold nameL
        rw [decide_eq_false (by rw [List.length_cons]; omega), Bool.and_false, Bool.false_and]
      rw [e]
      refine Ev.done fun k => ?_
      simp only [label_IsName.f]
      rw [if_neg (by rw [toList_nil]; omega), if_pos (by omega), hj]
    · have hall := name_l0 s (by omega) _ 0 hl
      by_cases hd : 48 ≤ c.toNat ∧ c.toNat ≤ 57
      · have e : nameL (c :: r) = false := by
          simp only [nameL, headOK]
          rw [decide_eq_false (fun h => h hd), Bool.false_and, Bool.false_and]
        rw [e]
        refine Ev.done fun k => ?_
        simp only [label_IsName.f]
        rw [if_neg (by rw [toList_nil]; omega), if_neg (by omega), if_pos (by omega), hb', if_pos (by omega), decide_eq_true (by omega), hj]
      · have e : nameL (c :: r) = (c :: r).all (fun c => decide (letN c.toNat)) := by
          simp only [nameL, headOK]
          rw [decide_eq_true hd, decide_eq_true (by rw [List.length_cons]; omega)]; rfl
        rw [e]
        have hj2 : Ev (fun k => label_IsName.j0 k s false) ((c :: r).all (fun c => decide (letN c.toNat))) := hall.step fun k => by
          simp only [label_IsName.j0]; rw [if_neg (by decide)]; rfl
        refine hj2.eq fun k => ?_
        simp only [label_IsName.f]
        rw [if_neg (by rw [toList_nil]; omega), if_neg (by omega), if_pos (by omega), hb']
        by_cases h48 : (c.toNat : Int) ≥ 48
        · rw [if_pos h48, decide_eq_false (by omega)]
        · rw [if_neg h48]
def OkR (c i : Int) : Prop := c = 95 ∨ (97 ≤ c ∧ c ≤ 122) ∨ (65 ≤ c ∧ c ≤ 90) ∨ (48 ≤ c ∧ c ≤ 57 ∧ i ≠ 0)
instance (c i : Int) : Decidable (OkR c i) := inferInstanceAs (Decidable (_ ∨ _))
theorem refname_step (k : Nat) (s : ByteArray) (i : Int) (h : i < (s.size : Int)) (h0 : 0 ≤ i) :
    soundingsref01_IsName.l0 (k + 1) s i = if OkR (bt s i) i then soundingsref01_IsName.l0 k s (wrap64 (i + 1)) else some false := by
  simp only [soundingsref01_IsName.l0]
  rw [if_pos h, if_pos h0]
  generalize soundingsref01_IsName.l0 k s (wrap64 (i + 1)) = X
  generalize bt s i = c
  by_cases ho : OkR c i
  · rw [if_pos ho]
    unfold OkR at ho
    repeat' split
    all_goals first | rfl | (exfalso; omega)
  · rw [if_neg ho]
    unfold OkR at ho
    repeat' split
    all_goals first | rfl | (exfalso; omega)
theorem refname_l0 (s : ByteArray) (hs : s.size < 4611686018427387904) (l : List UInt8) : ∀ i : Nat, s.data.toList.drop i = l → 0 < i → i ≤ s.size →
    Ev (fun k => soundingsref01_IsName.l0 k s (i : Int)) (l.all (fun c => decide (letN c.toNat)) && decide (s.size ≤ 200)) := by
  induction l with
  | nil =>
    intro i h h0 hi
    have := drop_nil h
    refine Ev.done fun k => ?_
    simp only [soundingsref01_IsName.l0]
    rw [if_neg (by omega), if_pos (by omega), List.all_nil, Bool.true_and]
    exact congrArg some (decide_eq_decide.2 (by omega))
  | cons c r ih =>
    intro i h h0 _
    obtain ⟨hb, hi, hr⟩ := bt_drop h
    by_cases hc : letN c.toNat
    · have h3 := ih (i + 1) hr (by omega) (by omega)
      rw [List.all_cons, decide_eq_true hc, Bool.true_and]
      refine h3.step fun k => ?_
      rw [refname_step k s i (by omega) (by omega), hb, if_pos (by unfold OkR; unfold letN at hc; omega), wrap_succ hi hs]
    · rw [List.all_cons, decide_eq_false hc, Bool.false_and, Bool.false_and]
      refine Ev.done fun k => ?_
      rw [refname_step k s i (by omega) (by omega), hb, if_neg (by unfold OkR; unfold letN at hc; omega)]
theorem refname_ev (s : ByteArray) (hs : s.size < 4611686018427387904) : Ev (fun k => soundingsref01_IsName.f k s) (nameB s) := by
  unfold nameB
  cases hl : s.data.toList with
  | nil =>
    have h0 : s.size = 0 := by rw [← len_data, hl]; rfl
    refine Ev.done fun k => ?_
    simp only [soundingsref01_IsName.f, soundingsref01_IsName.l0]
    rw [if_neg (by omega), if_neg (by omega)]; rfl
  | cons c r =>
    have h1 : s.size = r.length + 1 := by rw [← len_data, hl]; rfl
    obtain ⟨hb, hi, hr⟩ := bt_drop (s := s) (i := 0) hl
    by_cases hc : OkR (c.toNat : Int) 0
    · have hc' : letN c.toNat ∧ ¬ (48 ≤ c.toNat ∧ c.toNat ≤ 57) := by unfold OkR at hc; unfold letN; omega
      have h3 := refname_l0 s hs r 1 hr (by omega) (by omega)
      have e : nameL (c :: r) = (r.all (fun c => decide (letN c.toNat)) && decide (s.size ≤ 200)) := by
        simp only [nameL, headOK]
        rw [decide_eq_true hc'.2, Bool.true_and, List.all_cons, decide_eq_true hc'.1, Bool.true_and, Bool.and_comm, h1, List.length_cons]
      rw [e]
      refine h3.step fun k => ?_
      simp only [soundingsref01_IsName.f]
      have := refname_step k s 0 (by omega) (by omega)
      rw [this, show bt s 0 = (c.toNat : Int) from hb, if_pos hc, show wrap64 (0 + 1) = ((1 : Nat) : Int) by unfold wrap64; omega]
    · have e : nameL (c :: r) = false := by
        simp only [nameL, headOK]
        by_cases h2 : letN c.toNat
        · rw [decide_eq_false (by unfold OkR at hc; unfold letN at h2; omega), Bool.false_and, Bool.false_and]
        · rw [List.all_cons, decide_eq_false h2, Bool.false_and, Bool.and_false]
      rw [e]
      refine Ev.done fun k => ?_
      simp only [soundingsref01_IsName.f]
      have := refname_step k s 0 (by omega) (by omega)
      rw [this, show bt s 0 = (c.toNat : Int) from hb, if_neg hc]

/-! ### values -/
theorem in_is (s : ByteArray) (i j : Nat) (lo hi : Int) (hs : s.size < 4611686018427387904) (h : i < s.size) (hj : j < 4) :
    soundingsref01_in.f s (wrap64 ((i : Int) + j)) lo hi = some (decide (j < s.size - i ∧ lo ≤ (((s.data.toList.drop i).getD j 0).toNat : Int) ∧ (((s.data.toList.drop i).getD j 0).toNat : Int) ≤ hi)) := by
  have ew : wrap64 ((i : Int) + j) = ((i + j : Nat) : Int) := by unfold wrap64; omega
  rw [ew]
  unfold soundingsref01_in.f
  by_cases hlt : i + j < s.size
  · have hb : bt s ((i + j : Nat) : Int) = (((s.data.toList.drop i).getD j 0).toNat : Int) := by
      have hl : i + j < s.data.toList.length := by rw [len_data]; exact hlt
      have := (bt_drop (List.drop_eq_getElem_cons hl)).1
      rw [this, List.getD_eq_getElem?_getD, List.getElem?_drop, List.getElem?_eq_getElem hl]
      rfl
    rw [if_pos (by omega), if_pos (by omega), hb]
    by_cases h1 : lo ≤ (((s.data.toList.drop i).getD j 0).toNat : Int)
    · rw [if_pos (by omega)]
      exact congrArg some (decide_eq_decide.2 ⟨fun h2 => ⟨by omega, h1, h2⟩, fun h2 => h2.2.2⟩)
    · rw [if_neg (by omega), decide_eq_false (fun h2 => h1 h2.2.1)]
  · rw [if_neg (by omega), decide_eq_false (by omega)]
set_option maxRecDepth 100000 in
set_option maxHeartbeats 4000000 in
theorem rune_is (s : ByteArray) (i : Nat) (hs : s.size < 4611686018427387904) (h : i < s.size) (k : Nat) :
    soundingsref01_Rune.f (k + 8) s (i : Int) = some ((runeL (s.data.toList.drop i) : Nat) : Int) := by
  have i1 := fun lo hi => in_is s i 1 lo hi hs h (by omega)
  have i2 := fun lo hi => in_is s i 2 lo hi hs h (by omega)
  have i3 := fun lo hi => in_is s i 3 lo hi hs h (by omega)
  have hl : i < s.data.toList.length := by rw [len_data]; exact h
  have hlen : (s.data.toList.drop i).length = s.size - i := by rw [List.length_drop, len_data]
  have hb : bt s (i : Int) = (((s.data.toList.drop i).getD 0 0).toNat : Int) := by
    have := (bt_drop (List.drop_eq_getElem_cons hl)).1
    rw [this, List.getD_eq_getElem?_getD, List.getElem?_drop, Nat.add_zero, List.getElem?_eq_getElem hl]
    rfl
  unfold runeL
  rw [hlen]
  simp only [soundingsref01_Rune.f, soundingsref01_Rune.j0, soundingsref01_Rune.j1, soundingsref01_Rune.j2, soundingsref01_Rune.j3, soundingsref01_Rune.j4, soundingsref01_Rune.j5, soundingsref01_Rune.j6]
  rw [if_pos (by omega), if_pos (by omega), hb]
  have i1' : ∀ lo hi, soundingsref01_in.f s (wrap64 ((i : Int) + 1)) lo hi = _ := i1
  have i2' : ∀ lo hi, soundingsref01_in.f s (wrap64 ((i : Int) + 2)) lo hi = _ := i2
  have i3' : ∀ lo hi, soundingsref01_in.f s (wrap64 ((i : Int) + 3)) lo hi = _ := i3
  simp only [i1', i2', i3', Option.bind_some]
  generalize ((s.data.toList.drop i).getD 0 0).toNat = b0
  generalize ((s.data.toList.drop i).getD 1 0).toNat = b1
  generalize ((s.data.toList.drop i).getD 2 0).toNat = b2
  generalize ((s.data.toList.drop i).getD 3 0).toNat = b3
  generalize s.size - i = n
  clear i1 i2 i3 i1' i2' i3' hb hlen hl
  simp only [decide_eq_true_eq]
  have hcl : b0 < 128 ∨ (128 ≤ b0 ∧ b0 < 194) ∨ (194 ≤ b0 ∧ b0 < 224) ∨ b0 = 224 ∨ (225 ≤ b0 ∧ b0 < 237) ∨ b0 = 237 ∨ (238 ≤ b0 ∧ b0 < 240) ∨ b0 = 240 ∨ (241 ≤ b0 ∧ b0 < 244) ∨ b0 = 244 ∨ 245 ≤ b0 := by omega
  unfold runeN
  rcases hcl with hc | hc | hc | hc | hc | hc | hc | hc | hc | hc | hc
  · have e1 : (if b0 = 224 then (160 : Nat) else 128) = 128 := by split <;> omega
    have e2 : (if b0 = 237 then (159 : Nat) else 191) = 191 := by split <;> omega
    have e3 : (if b0 = 240 then (144 : Nat) else 128) = 128 := by split <;> omega
    have e4 : (if b0 = 244 then (143 : Nat) else 191) = 191 := by split <;> omega
    rw [e1, e2, e3, e4]
    clear e1 e2 e3 e4
    (repeat' (first | rw [if_pos (by omega)] | rw [if_neg (by omega)] | simp only [Bool.false_eq_true, if_false])) <;> rfl
  · have e1 : (if b0 = 224 then (160 : Nat) else 128) = 128 := by split <;> omega
    have e2 : (if b0 = 237 then (159 : Nat) else 191) = 191 := by split <;> omega
    have e3 : (if b0 = 240 then (144 : Nat) else 128) = 128 := by split <;> omega
    have e4 : (if b0 = 244 then (143 : Nat) else 191) = 191 := by split <;> omega
    rw [e1, e2, e3, e4]
    clear e1 e2 e3 e4
    (repeat' (first | rw [if_pos (by omega)] | rw [if_neg (by omega)] | simp only [Bool.false_eq_true, if_false])) <;> rfl
  · have e1 : (if b0 = 224 then (160 : Nat) else 128) = 128 := by split <;> omega
    have e2 : (if b0 = 237 then (159 : Nat) else 191) = 191 := by split <;> omega
    have e3 : (if b0 = 240 then (144 : Nat) else 128) = 128 := by split <;> omega
    have e4 : (if b0 = 244 then (143 : Nat) else 191) = 191 := by split <;> omega
    rw [e1, e2, e3, e4]
    clear e1 e2 e3 e4
    by_cases p : 1 < n ∧ 128 ≤ b1 ∧ b1 ≤ 191
    · (repeat' (first | rw [if_pos (by omega)] | rw [if_neg (by omega)] | simp only [Bool.false_eq_true, if_false])) <;> rfl
    · (repeat' (first | rw [if_pos (by omega)] | rw [if_neg (by omega)] | simp only [Bool.false_eq_true, if_false])) <;> rfl
  · have e1 : (if b0 = 224 then (160 : Nat) else 128) = 160 := by split <;> omega
    have e2 : (if b0 = 237 then (159 : Nat) else 191) = 191 := by split <;> omega
    have e3 : (if b0 = 240 then (144 : Nat) else 128) = 128 := by split <;> omega
    have e4 : (if b0 = 244 then (143 : Nat) else 191) = 191 := by split <;> omega
    rw [e1, e2, e3, e4]
    clear e1 e2 e3 e4
    by_cases p : 1 < n ∧ 160 ≤ b1 ∧ b1 ≤ 191
    · by_cases q : 2 < n ∧ 128 ≤ b2 ∧ b2 ≤ 191
      · (repeat' (first | rw [if_pos (by omega)] | rw [if_neg (by omega)] | simp only [Bool.false_eq_true, if_false])) <;> rfl
      · (repeat' (first | rw [if_pos (by omega)] | rw [if_neg (by omega)] | simp only [Bool.false_eq_true, if_false])) <;> rfl
    · (repeat' (first | rw [if_pos (by omega)] | rw [if_neg (by omega)] | simp only [Bool.false_eq_true, if_false])) <;> rfl
  · have e1 : (if b0 = 224 then (160 : Nat) else 128) = 128 := by split <;> omega
    have e2 : (if b0 = 237 then (159 : Nat) else 191) = 191 := by split <;> omega
    have e3 : (if b0 = 240 then (144 : Nat) else 128) = 128 := by split <;> omega
    have e4 : (if b0 = 244 then (143 : Nat) else 191) = 191 := by split <;> omega
    rw [e1, e2, e3, e4]
    clear e1 e2 e3 e4
    by_cases p : 1 < n ∧ 128 ≤ b1 ∧ b1 ≤ 191
    · by_cases q : 2 < n ∧ 128 ≤ b2 ∧ b2 ≤ 191
      · (repeat' (first | rw [if_pos (by omega)] | rw [if_neg (by omega)] | simp only [Bool.false_eq_true, if_false])) <;> rfl
      · (repeat' (first | rw [if_pos (by omega)] | rw [if_neg (by omega)] | simp only [Bool.false_eq_true, if_false])) <;> rfl
    · (repeat' (first | rw [if_pos (by omega)] | rw [if_neg (by omega)] | simp only [Bool.false_eq_true, if_false])) <;> rfl
  · have e1 : (if b0 = 224 then (160 : Nat) else 128) = 128 := by split <;> omega
    have e2 : (if b0 = 237 then (159 : Nat) else 191) = 159 := by split <;> omega
    have e3 : (if b0 = 240 then (144 : Nat) else 128) = 128 := by split <;> omega
    have e4 : (if b0 = 244 then (143 : Nat) else 191) = 191 := by split <;> omega
    rw [e1, e2, e3, e4]
    clear e1 e2 e3 e4
    by_cases p : 1 < n ∧ 128 ≤ b1 ∧ b1 ≤ 159
    · by_cases q : 2 < n ∧ 128 ≤ b2 ∧ b2 ≤ 191
      · (repeat' (first | rw [if_pos (by omega)] | rw [if_neg (by omega)] | simp only [Bool.false_eq_true, if_false])) <;> rfl
      · (repeat' (first | rw [if_pos (by omega)] | rw [if_neg (by omega)] | simp only [Bool.false_eq_true, if_false])) <;> rfl
    · (repeat' (first | rw [if_pos (by omega)] | rw [if_neg (by omega)] | simp only [Bool.false_eq_true, if_false])) <;> rfl
  · have e1 : (if b0 = 224 then (160 : Nat) else 128) = 128 := by split <;> omega
    have e2 : (if b0 = 237 then (159 : Nat) else 191) = 191 := by split <;> omega
    have e3 : (if b0 = 240 then (144 : Nat) else 128) = 128 := by split <;> omega
    have e4 : (if b0 = 244 then (143 : Nat) else 191) = 191 := by split <;> omega
    rw [e1, e2, e3, e4]
    clear e1 e2 e3 e4
    by_cases p : 1 < n ∧ 128 ≤ b1 ∧ b1 ≤ 191
    · by_cases q : 2 < n ∧ 128 ≤ b2 ∧ b2 ≤ 191
      · (repeat' (first | rw [if_pos (by omega)] | rw [if_neg (by omega)] | simp only [Bool.false_eq_true, if_false])) <;> rfl
      · (repeat' (first | rw [if_pos (by omega)] | rw [if_neg (by omega)] | simp only [Bool.false_eq_true, if_false])) <;> rfl
    · (repeat' (first | rw [if_pos (by omega)] | rw [if_neg (by omega)] | simp only [Bool.false_eq_true, if_false])) <;> rfl
  · have e1 : (if b0 = 224 then (160 : Nat) else 128) = 128 := by split <;> omega
    have e2 : (if b0 = 237 then (159 : Nat) else 191) = 191 := by split <;> omega
    have e3 : (if b0 = 240 then (144 : Nat) else 128) = 144 := by split <;> omega
    have e4 : (if b0 = 244 then (143 : Nat) else 191) = 191 := by split <;> omega
    rw [e1, e2, e3, e4]
    clear e1 e2 e3 e4
    by_cases p : 1 < n ∧ 144 ≤ b1 ∧ b1 ≤ 191
    · by_cases q : 2 < n ∧ 128 ≤ b2 ∧ b2 ≤ 191
      · by_cases r : 3 < n ∧ 128 ≤ b3 ∧ b3 ≤ 191
        · (repeat' (first | rw [if_pos (by omega)] | rw [if_neg (by omega)] | simp only [Bool.false_eq_true, if_false])) <;> rfl
        · (repeat' (first | rw [if_pos (by omega)] | rw [if_neg (by omega)] | simp only [Bool.false_eq_true, if_false])) <;> rfl
      · (repeat' (first | rw [if_pos (by omega)] | rw [if_neg (by omega)] | simp only [Bool.false_eq_true, if_false])) <;> rfl
    · (repeat' (first | rw [if_pos (by omega)] | rw [if_neg (by omega)] | simp only [Bool.false_eq_true, if_false])) <;> rfl
  · have e1 : (if b0 = 224 then (160 : Nat) else 128) = 128 := by split <;> omega
    have e2 : (if b0 = 237 then (159 : Nat) else 191) = 191 := by split <;> omega
    have e3 : (if b0 = 240 then (144 : Nat) else 128) = 128 := by split <;> omega
    have e4 : (if b0 = 244 then (143 : Nat) else 191) = 191 := by split <;> omega
    rw [e1, e2, e3, e4]
    clear e1 e2 e3 e4
    by_cases p : 1 < n ∧ 128 ≤ b1 ∧ b1 ≤ 191
    · by_cases q : 2 < n ∧ 128 ≤ b2 ∧ b2 ≤ 191
      · by_cases r : 3 < n ∧ 128 ≤ b3 ∧ b3 ≤ 191
        · (repeat' (first | rw [if_pos (by omega)] | rw [if_neg (by omega)] | simp only [Bool.false_eq_true, if_false])) <;> rfl
        · (repeat' (first | rw [if_pos (by omega)] | rw [if_neg (by omega)] | simp only [Bool.false_eq_true, if_false])) <;> rfl
      · (repeat' (first | rw [if_pos (by omega)] | rw [if_neg (by omega)] | simp only [Bool.false_eq_true, if_false])) <;> rfl
    · (repeat' (first | rw [if_pos (by omega)] | rw [if_neg (by omega)] | simp only [Bool.false_eq_true, if_false])) <;> rfl
  · have e1 : (if b0 = 224 then (160 : Nat) else 128) = 128 := by split <;> omega
    have e2 : (if b0 = 237 then (159 : Nat) else 191) = 191 := by split <;> omega
    have e3 : (if b0 = 240 then (144 : Nat) else 128) = 128 := by split <;> omega
    have e4 : (if b0 = 244 then (143 : Nat) else 191) = 143 := by split <;> omega
    rw [e1, e2, e3, e4]
    clear e1 e2 e3 e4
    by_cases p : 1 < n ∧ 128 ≤ b1 ∧ b1 ≤ 143
    · by_cases q : 2 < n ∧ 128 ≤ b2 ∧ b2 ≤ 191
      · by_cases r : 3 < n ∧ 128 ≤ b3 ∧ b3 ≤ 191
        · (repeat' (first | rw [if_pos (by omega)] | rw [if_neg (by omega)] | simp only [Bool.false_eq_true, if_false])) <;> rfl
        · (repeat' (first | rw [if_pos (by omega)] | rw [if_neg (by omega)] | simp only [Bool.false_eq_true, if_false])) <;> rfl
      · (repeat' (first | rw [if_pos (by omega)] | rw [if_neg (by omega)] | simp only [Bool.false_eq_true, if_false])) <;> rfl
    · (repeat' (first | rw [if_pos (by omega)] | rw [if_neg (by omega)] | simp only [Bool.false_eq_true, if_false])) <;> rfl
  · have e1 : (if b0 = 224 then (160 : Nat) else 128) = 128 := by split <;> omega
    have e2 : (if b0 = 237 then (159 : Nat) else 191) = 191 := by split <;> omega
    have e3 : (if b0 = 240 then (144 : Nat) else 128) = 128 := by split <;> omega
    have e4 : (if b0 = 244 then (143 : Nat) else 191) = 191 := by split <;> omega
    rw [e1, e2, e3, e4]
    clear e1 e2 e3 e4
    (repeat' (first | rw [if_pos (by omega)] | rw [if_neg (by omega)] | simp only [Bool.false_eq_true, if_false])) <;> rfl
theorem runeN_le (n b0 b1 b2 b3 : Nat) (hn : 1 ≤ n) : runeN n b0 b1 b2 b3 ≤ n := by
  unfold runeN
  repeat' split
  all_goals omega
theorem text_l0 (s : ByteArray) (hs : s.size < 4611686018427387904) (N : Nat) : ∀ i : Nat, s.size - i < N → i ≤ s.size → Ev (fun k => soundingsref01_IsText.l0 k s (i : Int)) (Lib.validD (s.data.toList.drop i)) := by
  induction N with
  | zero => intro i h; omega
  | succ N ih =>
    intro i hN hi
    by_cases he : i = s.size
    · rw [List.drop_eq_nil_of_le (by rw [len_data]; omega)]
      refine Ev.done fun k => ?_
      simp only [soundingsref01_IsText.l0]
      rw [if_neg (by omega)]; rfl
    · have hlt : i < s.size := by omega
      have hlen : (s.data.toList.drop i).length = s.size - i := by rw [List.length_drop, len_data]
      have hr : Ev (fun k => soundingsref01_Rune.f k s (i : Int)) ((runeL (s.data.toList.drop i) : Nat) : Int) :=
        ⟨8, fun k hk => by obtain ⟨m, rfl⟩ : ∃ m, k = m + 8 := ⟨k - 8, by omega⟩; exact rune_is s i hs hlt m⟩
      have hle : runeL (s.data.toList.drop i) ≤ s.size - i := by unfold runeL; rw [hlen]; exact runeN_le _ _ _ _ _ (by omega)
      rw [valid_rune _ (by intro e; rw [e] at hlen; simp at hlen; omega)]
      by_cases h0 : runeL (s.data.toList.drop i) = 0
      · rw [if_pos h0]
        rw [h0] at hr
        refine Ev.ask (g := fun t k => if t = 0 then some false else soundingsref01_IsText.l0 k s (wrap64 ((i : Int) + t))) hr (Ev.const (x := false)) (fun k => ?_) (fun k => if_pos rfl)
        simp only [soundingsref01_IsText.l0]
        rw [if_pos (by omega)]
      · rw [if_neg h0, List.drop_drop]
        have h3 := ih (i + runeL (s.data.toList.drop i)) (by omega) (by omega)
        generalize runeL (s.data.toList.drop i) = q at *
        refine Ev.ask (g := fun t k => if t = 0 then some false else soundingsref01_IsText.l0 k s (wrap64 ((i : Int) + t))) hr h3 (fun k => ?_) (fun k => ?_)
        · simp only [soundingsref01_IsText.l0]
          rw [if_pos (by omega)]
        · show (if (q : Int) = 0 then _ else _) = _
          rw [if_neg (by omega), show wrap64 ((i : Int) + (q : Int)) = ((i + q : Nat) : Int) by unfold wrap64; omega]
theorem refval_ev (s : ByteArray) : Ev (fun k => soundingsref01_IsValue.f k s) (valB s) := by
  unfold valB
  by_cases h : s.size ≤ 200
  · rw [decide_eq_true h, Bool.true_and]
    have := text_l0 s (by omega) (s.size + 1) 0 (by omega) (by omega)
    rw [List.drop_zero] at this
    refine Ev.ask0 (g := fun t _ => some t) (f := fun k => soundingsref01_IsText.f k s) this Ev.const (fun k => ?_) (fun k => rfl)
    simp only [soundingsref01_IsValue.f]
    rw [if_pos (by omega)]
  · rw [decide_eq_false h, Bool.false_and]
    refine Ev.done fun k => ?_
    simp only [soundingsref01_IsValue.f]
    rw [if_neg (by omega)]
theorem value_is (s : ByteArray) : label_value.f s = some (valB s) := by
  unfold label_value.f valB utf8_ValidString.f
  by_cases h : s.size ≤ 200
  · rw [if_pos (by omega), if_pos (by omega), decide_eq_true h, Bool.true_and]; rfl
  · rw [if_neg (by omega), decide_eq_false h, Bool.false_and]
theorem may_ev (x : Lb) : Ev (fun k => label_may.f k x.f0 x.f1) (mayB x) := by
  unfold mayB
  have hn := name_ev x.f0
  cases hb : nameB x.f0 with
  | false =>
    rw [hb] at hn
    rw [Bool.false_and]
    exact Ev.ask0 (g := fun t _ => if t = true then (label_value.f x.f1).bind fun t105 => some t105 else some false) hn Ev.const (fun k => rfl) (fun k => rfl)
  | true =>
    rw [hb] at hn
    rw [Bool.true_and]
    refine Ev.ask0 (g := fun t _ => if t = true then (label_value.f x.f1).bind fun t105 => some t105 else some false) hn Ev.const (fun k => rfl) (fun k => ?_)
    simp only [if_true, value_is]; rfl
theorem less_cmp (a : List UInt8) : ∀ b, Op.bytesLess a b = decide (Lib.compareBytes a b < 0) := by
  induction a with
  | nil => intro b; cases b <;> simp [Op.bytesLess, Lib.compareBytes]
  | cons x a ih =>
    intro b
    cases b with
    | nil => simp [Op.bytesLess, Lib.compareBytes]
    | cons y b =>
      simp only [Op.bytesLess, Lib.compareBytes, ih b, UInt8.lt_iff_toNat_lt]
      by_cases h1 : x.toNat < y.toNat
      · simp [h1]
      · by_cases h2 : y.toNat < x.toNat
        · have hne : (x == y) = false := by rw [beq_eq_false_iff_ne]; intro e; rw [e] at h2; omega
          simp [h1, h2, hne]
        · have he : x = y := UInt8.toNat_inj.1 (by omega)
          subst he
          simp [h1]
theorem less_is (a b : ByteArray) : Op.bytesLess a.toList b.toList = decide (cmpS a b < 0) := by
  rw [less_cmp, Lib.toList_data, Lib.toList_data]; rfl
/-- The name ahead of a place. -/
def prevN (l : List Lb) : Nat → Option ByteArray
  | 0 => none
  | j + 1 => (l[j]?).map (·.f0)
theorem prevN_succ (l : List Lb) (j : Nat) (h : j < l.length) : prevN l (j + 1) = some l[j].f0 := by simp [prevN, h]
theorem full_is (x : Lb) : (x.f1.toList = ([] : List UInt8)) ↔ full x = false := by
  rw [toList_nil, ← empty_iff]
  unfold full
  simp
end Go.Proofs.YtlelcmkbcejjkaaDoor.Lab
