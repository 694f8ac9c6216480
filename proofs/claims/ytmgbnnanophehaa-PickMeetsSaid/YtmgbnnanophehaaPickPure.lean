/- The plain laws of layer 6: what pick.At, pick.Window and the references come to, in plain words; PickSamples, PickMeets, PickWider as pure statements. -/
import Derived.Test.YtmgbnnanophehaaPx16
import Derived.Test.YtmgbnnanophehaaPx17
import Derived.Test.YtmgbnnanophehaaPx18
namespace Go.Proofs.Ytmgbnnanophehaa.P
open Go.Proofs Go.Proofs.Ytmgbnnanophehaa.Two
open Go.RowKit Go.Proofs.YtmgbnnanophehaaW.PrintWords Go.Proofs.YtmgbnnanophehaaW.PrintLast Go.Proofs.YtmgbnnanophehaaW.PrintMore
set_option linter.unusedVariables false
set_option linter.unusedSimpArgs false

theorem w64 (x : Int) (h0 : -9223372036854775808 ≤ x) (h1 : x ≤ 9223372036854775807) : wrap64 x = x := by unfold wrap64; omega
theorem w64_succ (j : Nat) (h : j < 4611686018427387904) : wrap64 ((j : Int) + 1) = ((j + 1 : Nat) : Int) := by unfold wrap64; omega
theorem pt_ext {x y : S29} (h0 : x.f0 = y.f0) (h1 : x.f1 = y.f1) : x = y := by cases x; cases y; simp_all

/-! ### the reference's May -/
theorem rmay_at (l : List S29) (t b : Int) (hl : l.length ≤ 4611686018427387904) (d : Nat) : ∀ (k j : Nat), l.length - j = d → j ≤ l.length → d < k → (∀ i (h : i < l.length), i < j → -2305843009213693952 ≤ l[i].f0 ∧ l[i].f0 ≤ 2305843009213693952) → (∀ i (h : i + 1 < l.length), i + 1 < j → l[i].f0 < l[i+1].f0) →
    soundingsref06_May.l0 k l t b j = some (mayP l t b) := by
  induction d with
  | zero =>
    intro k j hd hj hk h1 h2
    obtain ⟨k, rfl⟩ : ∃ m, k = m + 1 := ⟨k - 1, by omega⟩
    have hR : Rise l := rise_of l fun i hi => h2 i hi (by omega)
    have hA : ∀ x ∈ l, -2305843009213693952 ≤ x.f0 ∧ x.f0 ≤ 2305843009213693952 := by
      intro x hx
      obtain ⟨i, hi, rfl⟩ := List.mem_iff_getElem.1 hx
      exact h1 i hi (by omega)
    simp only [soundingsref06_May.l0]
    rw [if_neg (by omega)]
    unfold mayP
    by_cases c1 : t ≥ -2305843009213693952
    · rw [if_pos c1]
      by_cases c2 : t ≤ 2305843009213693952
      · rw [if_pos c2]
        by_cases c3 : b > 0
        · rw [if_pos c3]
          by_cases c4 : b ≤ 2305843009213693952
          · rw [decide_eq_true c4, decide_eq_true ⟨hA, hR, c1, c2, c3, c4⟩]
          · rw [decide_eq_false c4, decide_eq_false (fun h => c4 h.2.2.2.2.2)]
        · rw [if_neg c3, decide_eq_false (fun h => c3 (by have := h.2.2.2.2.1; omega))]
      · rw [if_neg c2, decide_eq_false (fun h => c2 h.2.2.2.1)]
    · rw [if_neg c1, decide_eq_false (fun h => c1 h.2.2.1)]
  | succ d ih =>
    intro k j hd hj hk h1 h2
    obtain ⟨k, rfl⟩ : ∃ m, k = m + 1 := ⟨k - 1, by omega⟩
    have hlt : j < l.length := by omega
    have w1 : wrap64 ((j : Int) + 1) = ((j + 1 : Nat) : Int) := by unfold wrap64; omega
    simp only [soundingsref06_May.l0]
    rw [if_pos (by omega), if_pos (by omega), rdP_at l j hlt, w1]
    by_cases c1 : l[j].f0 < -2305843009213693952
    · rw [if_pos c1]
      unfold mayP
      rw [decide_eq_false (fun h => by have := (h.1 l[j] (List.getElem_mem hlt)).1; omega)]
    · rw [if_neg c1]
      by_cases c2 : l[j].f0 > 2305843009213693952
      · rw [if_pos c2]
        unfold mayP
        rw [decide_eq_false (fun h => by have := (h.1 l[j] (List.getElem_mem hlt)).2; omega)]
      · rw [if_neg c2]
        have n1 : ∀ i (h : i < l.length), i < j + 1 → -2305843009213693952 ≤ l[i].f0 ∧ l[i].f0 ≤ 2305843009213693952 := by
          intro i h hi
          rcases Nat.lt_or_ge i j with h' | h'
          · exact h1 i h h'
          · obtain rfl : i = j := by omega
            omega
        by_cases c3 : (j : Int) > 0
        · rw [if_pos c3]
          have w2 : wrap64 ((j : Int) - 1) = ((j - 1 : Nat) : Int) := by unfold wrap64; omega
          rw [w2, if_pos (by omega), if_pos (by omega), rdP_at l (j - 1) (by omega)]
          by_cases c4 : l[j].f0 ≤ l[j - 1].f0
          · rw [if_pos c4]
            unfold mayP
            rw [decide_eq_false (fun h => by have := Rise.at_ h.2.1 (j - 1) j (by omega) hlt (by omega); omega)]
          · rw [if_neg c4]
            exact ih k (j + 1) (by omega) (by omega) (by omega) n1 (fun i h hi => by
              rcases Nat.lt_or_ge (i + 1) j with h' | h'
              · exact h2 i h h'
              · obtain rfl : i = j - 1 := by omega
                have e : l[j - 1 + 1].f0 = l[j].f0 := by congr 1; exact getElem_congr_idx (by omega)
                omega)
        · rw [if_neg c3]
          exact ih k (j + 1) (by omega) (by omega) (by omega) n1 (fun i h hi => by omega)
theorem rmay_is (l : List S29) (t b : Int) (hl : l.length ≤ 4611686018427387904) (k : Nat) (hk : l.length < k) : soundingsref06_May.f k l t b = some (mayP l t b) :=
  rmay_at l t b hl l.length k 0 (by omega) (by omega) hk (fun i h hi => by omega) (fun i h hi => by omega)

/-! ### the sample at a time -/
def okP (t b : Int) (x : S29) : Bool := decide (t - b < x.f0) && !stale x
def atP (l : List S29) (t b : Int) : Int × Bool :=
  if mayP l t b = true then (match (l.filter fun x => decide (x.f0 ≤ t)).getLast? with
    | none => (0, false)
    | some x => if okP t b x = true then (x.f1, true) else (0, false)) else (0, false)

theorem last_at {l : List S29} (h : Rise l) (t : Int) : (l.filter fun x => decide (x.f0 ≤ t)).getLast? = if upN l t = 0 then none else l[upN l t - 1]? := by
  rw [← upN_at h, List.getLast?_take]
  have := upN_le l t
  split
  · rfl
  · rename_i h0
    rw [List.getElem?_eq_getElem (by omega)]
    rfl

theorem at_is (l : List S29) (t b : Int) (hl : l.length ≤ 4611686018427387904 - 1) (k : Nat) (hk : l.length < k) : pick_At.f k l t b = some (atP l t b) := by
  unfold pick_At.f
  rw [may_is l t b (by omega) k hk]
  simp only [Option.bind_some]
  unfold atP
  by_cases hm : mayP l t b = true
  · obtain ⟨hA, hR, t0, t1, b0, b1⟩ := mayP_true hm
    rw [if_pos hm, if_pos hm, last_at hR]
    unfold pick_upto.f
    rw [if_pos ⟨hR, by omega⟩]
    simp only [Option.bind_some]
    have hle := upN_le l t
    by_cases h0 : upN l t = 0
    · rw [if_pos h0, if_pos (by omega)]
    · have w1 : wrap64 ((upN l t : Int) - 1) = ((upN l t - 1 : Nat) : Int) := by unfold wrap64; omega
      have w2 : wrap64 (t - b) = t - b := by unfold wrap64; omega
      have hlt : upN l t - 1 < l.length := by omega
      rw [if_neg h0, if_neg (by omega), w1, w2, if_pos (by omega), if_pos (by omega), rdP_at l _ hlt, List.getElem?_eq_getElem hlt]
      simp only [pick_sample_stale.f, Option.bind_some]
      generalize l[upN l t - 1] = x
      by_cases c : x.f0 ≤ t - b
      · have eo : okP t b x = false := by unfold okP; rw [decide_eq_false (by omega)]; rfl
        rw [if_pos c, eo]
        rfl
      · have eo : okP t b x = !(x.f1 == 9218868437227405314) := by unfold okP stale; rw [decide_eq_true (by omega)]; rfl
        rw [if_neg c, eo]
        cases hs : (x.f1 == 9218868437227405314) <;> rfl
  · rw [if_neg hm, if_neg hm]

/-! ### the reference's At -/
def stepP (t b : Int) (s : Int × Bool) (x : S29) : Int × Bool := if x.f0 ≤ t then (x.f1, okP t b x) else s
theorem fold_last (t b : Int) : ∀ (l : List S29) (s : Int × Bool), l.foldl (stepP t b) s = match (l.filter fun x => decide (x.f0 ≤ t)).getLast? with
    | none => s
    | some x => (x.f1, okP t b x)
  | [], s => rfl
  | x :: r, s => by
    rw [List.foldl_cons, fold_last t b r, List.filter_cons]
    by_cases c : x.f0 ≤ t
    · simp only [c, decide_true, if_true, List.getLast?_cons, stepP]
      cases (r.filter fun x => decide (x.f0 ≤ t)).getLast? <;> rfl
    · simp only [c, decide_false, Bool.false_eq_true, if_false, stepP]

theorem rat_at (l : List S29) (t b : Int) (hm : mayP l t b = true) (hl : l.length ≤ 4611686018427387904 - 1) (d : Nat) : ∀ (k j : Nat) (s : Int × Bool), l.length - j = d → j ≤ l.length → l.length + d * 2 + 2 < k →
    soundingsref06_At.l0 k l t b s.1 s.2 j = some (let e := (l.drop j).foldl (stepP t b) s; if e.2 = true then (e.1, true) else (0, false)) := by
  induction d with
  | zero =>
    intro k j s hd hj hk
    obtain ⟨k, rfl⟩ : ∃ m, k = m + 1 + 1 := ⟨k - 2, by omega⟩
    simp only [soundingsref06_At.l0, soundingsref06_At.j1]
    rw [if_neg (by omega), List.drop_eq_nil_of_le (by omega)]
    obtain ⟨s0, s1⟩ := s
    cases s1 <;> rfl
  | succ d ih =>
    intro k j s hd hj hk
    obtain ⟨k, rfl⟩ : ∃ m, k = m + 1 + 1 := ⟨k - 2, by omega⟩
    have hlt : j < l.length := by omega
    obtain ⟨_, hR, t0, t1, b0, b1⟩ := mayP_true hm
    have w1 : wrap64 ((j : Int) + 1) = ((j + 1 : Nat) : Int) := by unfold wrap64; omega
    have w2 : wrap64 (t - b) = t - b := by unfold wrap64; omega
    simp only [soundingsref06_At.l0, soundingsref06_At.j1]
    rw [if_pos (by omega), rmay_is l t b (by omega) (k + 1) (by omega), hm]
    simp only [Option.bind_some, if_true]
    rw [if_pos (by omega), if_pos (by omega), rdP_at l j hlt, w1, w2, List.drop_eq_getElem_cons hlt, List.foldl_cons]
    by_cases c : l[j].f0 ≤ t
    · have e : stepP t b s l[j] = (l[j].f1, okP t b l[j]) := by unfold stepP; rw [if_pos c]
      rw [if_pos c, e]
      by_cases c2 : l[j].f0 > t - b
      · have e2 : okP t b l[j] = (l[j].f1 != 9218868437227405314) := by unfold okP stale; rw [decide_eq_true (by omega)]; rfl
        rw [if_pos c2, e2]
        exact ih k (j + 1) (_, _) (by omega) (by omega) (by omega)
      · have e2 : okP t b l[j] = false := by unfold okP; rw [decide_eq_false (by omega)]; rfl
        rw [if_neg c2, e2]
        exact ih k (j + 1) (_, _) (by omega) (by omega) (by omega)
    · have e : stepP t b s l[j] = s := by unfold stepP; rw [if_neg c]
      rw [if_neg c, e]
      exact ih k (j + 1) s (by omega) (by omega) (by omega)
theorem rat_is (l : List S29) (t b : Int) (hl : l.length ≤ 4611686018427387904 - 1) (k : Nat) (hk : l.length * 3 + 3 < k) : soundingsref06_At.f k l t b = some (atP l t b) := by
  unfold soundingsref06_At.f atP
  by_cases hm : mayP l t b = true
  · rw [if_pos hm]
    have h := rat_at l t b hm hl l.length k 0 (0, false) (by omega) (by omega) (by omega)
    have h' : soundingsref06_At.l0 k l t b 0 false 0 = _ := h
    rw [h', List.drop_zero, fold_last]
    cases (l.filter fun x => decide (x.f0 ≤ t)).getLast? <;> simp
  · rw [if_neg hm]
    obtain ⟨k, rfl⟩ : ∃ m, k = m + 1 + 1 := ⟨k - 2, by omega⟩
    simp only [soundingsref06_At.l0, soundingsref06_At.j1]
    rw [rmay_is l t b (by omega) (k + 1) (by omega)]
    rw [Bool.not_eq_true] at hm
    rw [hm]
    split <;> simp [soundingsref06_At.j1]

/-! ### the reference's Window -/
theorem rwin_at (l : List S29) (t b : Int) (hm : mayP l t b = true) (hl : l.length * 16 ≤ 140737488355328 - 16) (d : Nat) : ∀ (k j : Nat) (s : List S29), l.length - j = d → j ≤ l.length → s.length ≤ j → l.length + d * 2 + 2 < k →
    soundingsref06_Window.l0 k l t b s j = some (s ++ winP (l.drop j) t b) := by
  induction d with
  | zero =>
    intro k j s hd hj hs hk
    obtain ⟨k, rfl⟩ : ∃ m, k = m + 1 + 1 := ⟨k - 2, by omega⟩
    simp only [soundingsref06_Window.l0, soundingsref06_Window.j1]
    rw [if_neg (by omega), List.drop_eq_nil_of_le (by omega)]
    simp [winP]
  | succ d ih =>
    intro k j s hd hj hs hk
    obtain ⟨k, rfl⟩ : ∃ m, k = m + 1 + 1 := ⟨k - 2, by omega⟩
    have hlt : j < l.length := by omega
    obtain ⟨_, hR, t0, t1, b0, b1⟩ := mayP_true hm
    have w1 : wrap64 ((j : Int) + 1) = ((j + 1 : Nat) : Int) := by unfold wrap64; omega
    have w2 : wrap64 (t - b) = t - b := by unfold wrap64; omega
    have hd' : l.drop j = l[j] :: l.drop (j + 1) := List.drop_eq_getElem_cons hlt
    simp only [soundingsref06_Window.l0, soundingsref06_Window.j1]
    rw [if_pos (by omega), rmay_is l t b (by omega) (k + 1) (by omega), hm]
    simp only [Option.bind_some, if_true]
    rw [if_pos (by omega), if_pos (by omega), rdP_at l j hlt, w1, w2, hd']
    unfold winP
    rw [List.filter_cons]
    by_cases c : l[j].f0 ≤ t
    · rw [if_pos c]
      by_cases c2 : l[j].f0 > t - b
      · rw [if_pos c2]
        by_cases c3 : l[j].f1 = 9218868437227405314
        · rw [if_pos c3]
          have e : stale l[j] = true := by unfold stale; rw [c3]; rfl
          rw [e]
          simp only [Bool.not_true, Bool.and_false, Bool.false_eq_true, if_false]
          exact ih k (j + 1) s (by omega) (by omega) (by omega) (by omega)
        · rw [if_neg c3, if_pos (by omega)]
          have e : stale l[j] = false := by unfold stale; rw [beq_eq_false_iff_ne]; exact c3
          rw [e, decide_eq_true ⟨by omega, c⟩]
          simp only [Bool.not_false, Bool.and_true, if_true]
          have h := ih k (j + 1) (s ++ [l[j]]) (by omega) (by omega) (by rw [List.length_append]; simp; omega) (by omega)
          have e2 : (⟨l[j].f0, l[j].f1⟩ : S29) = l[j] := pt_ext rfl rfl
          rw [e2, h, List.append_assoc]
          rfl
      · rw [if_neg c2, decide_eq_false (by omega)]
        simp only [Bool.false_and, Bool.false_eq_true, if_false]
        exact ih k (j + 1) s (by omega) (by omega) (by omega) (by omega)
    · rw [if_neg c, decide_eq_false (by omega)]
      simp only [Bool.false_and, Bool.false_eq_true, if_false]
      exact ih k (j + 1) s (by omega) (by omega) (by omega) (by omega)
def winM (l : List S29) (t b : Int) : List S29 := if mayP l t b = true then winP l t b else []
theorem rwin_is (l : List S29) (t b : Int) (hl : l.length * 16 ≤ 140737488355328 - 16) (k : Nat) (hk : l.length * 3 + 3 < k) : soundingsref06_Window.f k l t b = some (winM l t b) := by
  unfold soundingsref06_Window.f winM
  by_cases hm : mayP l t b = true
  · rw [if_pos hm]
    have h := rwin_at l t b hm hl l.length k 0 [] (by omega) (by omega) (by simp) (by omega)
    simpa using h
  · rw [if_neg hm]
    obtain ⟨k, rfl⟩ : ∃ m, k = m + 1 + 1 := ⟨k - 2, by omega⟩
    simp only [soundingsref06_Window.l0, soundingsref06_Window.j1]
    rw [rmay_is l t b (by omega) (k + 1) (by omega)]
    rw [Bool.not_eq_true] at hm
    rw [hm]
    split <;> simp [soundingsref06_Window.j1]
theorem win_is (l : List S29) (t b : Int) (hl : l.length * 16 ≤ 140737488355328) : pick_Window.f l t b = some (winM l t b) := by
  unfold pick_Window.f winM
  rw [if_pos hl]
  split <;> rfl

/-! ### the same points? -/
theorem pts_at (a b : List S29) (he : a.length = b.length) (hl : a.length ≤ 4611686018427387904) (d : Nat) : ∀ (k j : Nat), a.length - j = d → j ≤ a.length → d < k → (∀ i (h : i < a.length), i < j → a[i] = b[i]) → (soundingsref05_Points.l0 k a b j = some true ↔ a = b) := by
  induction d with
  | zero =>
    intro k j hd hj hk h1
    obtain ⟨k, rfl⟩ : ∃ m, k = m + 1 := ⟨k - 1, by omega⟩
    simp only [soundingsref05_Points.l0]
    rw [if_neg (by omega)]
    exact ⟨fun _ => List.ext_getElem he fun i h1' h2' => h1 i h1' (by omega), fun _ => rfl⟩
  | succ d ih =>
    intro k j hd hj hk h1
    obtain ⟨k, rfl⟩ : ∃ m, k = m + 1 := ⟨k - 1, by omega⟩
    have hlt : j < a.length := by omega
    have w1 : wrap64 ((j : Int) + 1) = ((j + 1 : Nat) : Int) := by unfold wrap64; omega
    simp only [soundingsref05_Points.l0]
    rw [if_pos (by omega), if_pos (by omega), if_pos (by omega), rdP_at a j hlt, rdP_at b j (by omega), w1]
    by_cases e : a[j] = b[j]
    · rw [if_neg (by rw [e]; simp)]
      exact ih k (j + 1) (by omega) (by omega) (by omega) (fun i h hi => by
        rcases Nat.lt_or_ge i j with h' | h'
        · exact h1 i h h'
        · obtain rfl : i = j := by omega
          exact e)
    · have hc : (!(a[j].f0 == b[j].f0) || (!(a[j].f1 == b[j].f1))) = true := by
        rw [Bool.or_eq_true, Bool.not_eq_true', Bool.not_eq_true', beq_eq_false_iff_ne, beq_eq_false_iff_ne]
        by_cases h0 : a[j].f0 = b[j].f0
        · right; intro h2; exact e (pt_ext h0 h2)
        · left; exact h0
      rw [if_pos hc]
      exact ⟨fun h => by simp at h, fun h => absurd (by subst h; rfl) e⟩
theorem pts_self (a : List S29) (hl : a.length ≤ 4611686018427387904) (k : Nat) (hk : a.length < k) : soundingsref05_Points.f k a a = some true := by
  unfold soundingsref05_Points.f
  rw [if_pos rfl]
  exact (pts_at a a rfl hl a.length k 0 (by omega) (by omega) hk (fun i h hi => by omega)).2 rfl

/-! ### awake -/
theorem awake_is (k : Nat) (hk : 20 < k) : soundingslaw06_awake.f k = some true := by
  have m1 : mayP [(⟨1, 7⟩ : S29), (⟨5, 8⟩ : S29)] 9 5 = true := by decide +kernel
  have m2 : mayP [(⟨1, 7⟩ : S29), (⟨5, 8⟩ : S29)] 9 4 = true := by decide +kernel
  have m3 : mayP [(⟨1, 7⟩ : S29), (⟨5, 8⟩ : S29)] 5 4 = true := by decide +kernel
  have a1 : atP [(⟨1, 7⟩ : S29), (⟨5, 8⟩ : S29)] 9 5 = (8, true) := by unfold atP; rw [if_pos m1]; decide +kernel
  have a2 : atP [(⟨1, 7⟩ : S29), (⟨5, 8⟩ : S29)] 9 4 = (0, false) := by unfold atP; rw [if_pos m2]; decide +kernel
  unfold soundingslaw06_awake.f
  simp only [Option.bind_some]
  rw [at_is _ _ _ (by simp) k (by simp; omega), at_is _ _ _ (by simp) k (by simp; omega), win_is _ _ _ (by simp)]
  simp only [Option.bind_some, a1, a2]
  unfold winM
  rw [if_pos m3]
  decide +kernel

/-! ### the statements -/
theorem pickSamples_pure (l : List S29) (t b : Int) : ∃ k, soundingslaw06_PickSamples.f k l t b = some true := by
  refine ⟨l.length * 3 + 100, ?_⟩
  unfold soundingslaw06_PickSamples.f
  rw [awake_is _ (by omega)]
  simp only [Option.bind_some, if_true]
  by_cases h : (l.length : Int) > 400
  · rw [if_pos h]
  · rw [if_neg h, at_is l t b (by omega) _ (by omega), rat_is l t b (by omega) _ (by omega)]
    simp only [Option.bind_some, beq_self_eq_true, if_true]
    rw [win_is l t b (by omega), rwin_is l t b (by omega) _ (by omega)]
    simp only [Option.bind_some]
    have hl : (winM l t b).length ≤ l.length := by
      unfold winM winP
      split
      · exact List.length_filter_le _ _
      · simp
    rw [pts_self _ (by omega) _ (by omega)]
    rfl

theorem filter_part {l : List S29} (h : Rise l) (p : S29 → Bool) (s : Int) : (l.filter fun x => p x && decide (x.f0 ≤ s)) ++ (l.filter fun x => p x && decide (s < x.f0)) = l.filter p := by
  have e1 : (l.filter fun x => p x && decide (x.f0 ≤ s)) = (l.take (upN l s)).filter p := by rw [upN_at h, List.filter_filter]
  have e2 : (l.filter fun x => p x && decide (s < x.f0)) = (l.drop (upN l s)).filter p := by rw [upN_drop h, List.filter_filter]
  rw [e1, e2, ← List.filter_append, List.take_append_drop]

theorem win_meets {l : List S29} (h : Rise l) (t a b : Int) (ha : 0 ≤ a) (hb : 0 ≤ b) : winP l t (a + b) = winP l (t - a) b ++ winP l t a := by
  unfold winP
  rw [← filter_part h _ (t - a)]
  congr 1
  · refine List.filter_congr fun x _ => ?_
    rw [Bool.eq_iff_iff]
    simp only [Bool.and_eq_true, decide_eq_true_eq]
    constructor
    · rintro ⟨⟨⟨h1, h2⟩, h3⟩, h4⟩; exact ⟨⟨by omega, by omega⟩, h3⟩
    · rintro ⟨⟨h1, h2⟩, h3⟩; exact ⟨⟨⟨by omega, by omega⟩, h3⟩, by omega⟩
  · refine List.filter_congr fun x _ => ?_
    rw [Bool.eq_iff_iff]
    simp only [Bool.and_eq_true, decide_eq_true_eq]
    constructor
    · rintro ⟨⟨⟨h1, h2⟩, h3⟩, h4⟩; exact ⟨⟨by omega, by omega⟩, h3⟩
    · rintro ⟨⟨h1, h2⟩, h3⟩; exact ⟨⟨⟨by omega, by omega⟩, h3⟩, by omega⟩

/-- A window's last point, where the sample is there. -/
theorem win_last {l : List S29} (h : Rise l) (t b : Int) (x : S29) (hx : (l.filter fun x => decide (x.f0 ≤ t)).getLast? = some x) (ho : okP t b x = true) : (winP l t b).getLast? = some x := by
  have e : winP l t b = (l.filter fun x => decide (x.f0 ≤ t)).filter (okP t b) := by
    unfold winP okP
    rw [List.filter_filter]
    refine List.filter_congr fun y _ => ?_
    rw [Bool.eq_iff_iff]
    simp only [Bool.and_eq_true, decide_eq_true_eq]
    constructor
    · rintro ⟨⟨h1, h2⟩, h3⟩; exact ⟨⟨h1, h3⟩, h2⟩
    · rintro ⟨⟨h1, h3⟩, h2⟩; exact ⟨⟨h1, h2⟩, h3⟩
  rw [e]
  generalize (l.filter fun x => decide (x.f0 ≤ t)) = m at hx
  obtain ⟨ys, rfl⟩ := List.getLast?_eq_some_iff.1 hx
  rw [List.filter_append, List.filter_cons, ho]
  simp

theorem last_rd {l : List S29} {x : S29} (h : l.getLast? = some x) (hl : l.length ≤ 4611686018427387904) : 0 < l.length ∧ wrap64 ((l.length : Int) - 1) = ((l.length - 1 : Nat) : Int) ∧ rd_T29 l ((l.length - 1 : Nat) : Int) = x := by
  obtain ⟨ys, rfl⟩ := List.getLast?_eq_some_iff.1 h
  have hp : 0 < (ys ++ [x]).length := by simp
  refine ⟨hp, by unfold wrap64; omega, ?_⟩
  rw [rdP_at _ _ (by omega)]
  simp

theorem pickMeets_pure (l : List S29) (t a b : Int) : ∃ k, soundingslaw06_PickMeets.f k l t a b = some true := by
  refine ⟨l.length * 3 + 100 + 1, ?_⟩
  have hj : ∀ k, soundingslaw06_PickMeets.j0 (k + 1) l t a b true = some true := fun k => rfl
  unfold soundingslaw06_PickMeets.f
  rw [awake_is _ (by omega)]
  simp only [Option.bind_some, if_true]
  by_cases h : (l.length : Int) > 400
  · rw [if_pos h, hj]
  rw [if_neg h]
  by_cases h1 : a < 1
  · rw [if_pos h1, hj]
  rw [if_neg h1]
  by_cases h2 : b < 1
  · rw [if_pos h2, hj]
  rw [if_neg h2]
  by_cases h3 : a > 1152921504606846976
  · rw [if_pos h3, hj]
  rw [if_neg h3]
  by_cases h4 : b > 1152921504606846976
  · rw [if_pos h4, hj]
  rw [if_neg h4]
  by_cases h5 : t < -1152921504606846976
  · rw [if_pos h5, hj]
  rw [if_neg h5, rmay_is l t a (by omega) _ (by omega)]
  simp only [Option.bind_some]
  cases hm : mayP l t a with
  | false => exact hj _
  | true =>
    obtain ⟨hA, hR, t0, t1, b0, b1⟩ := mayP_true hm
    simp only [soundingslaw06_PickMeets.j0, Bool.not_true]
    rw [if_neg (by simp)]
    have w1 : wrap64 (a + b) = a + b := by unfold wrap64; omega
    have w2 : wrap64 (t - a) = t - a := by unfold wrap64; omega
    have m1 : mayP l t (a + b) = true := decide_eq_true ⟨hA, hR, t0, t1, by omega, by omega⟩
    have m2 : mayP l (t - a) b = true := decide_eq_true ⟨hA, hR, by omega, by omega, by omega, by omega⟩
    have hlen : ∀ t b, (winP l t b).length ≤ l.length := fun t b => List.length_filter_le _ _
    have e1 : winM l t (a + b) = winP l t (a + b) := by unfold winM; rw [if_pos m1]
    have e2 : winM l (t - a) b = winP l (t - a) b := by unfold winM; rw [if_pos m2]
    have e3 : winM l t a = winP l t a := by unfold winM; rw [if_pos hm]
    have l1 := hlen t (a + b)
    have l2 := hlen (t - a) b
    have l3 := hlen t a
    rw [w1, w2, win_is l t (a + b) (by omega), win_is l (t - a) b (by omega), win_is l t a (by omega), e1, e2, e3]
    simp only [Option.bind_some]
    rw [if_pos (by simp; omega)]
    try simp only [Option.bind_some]
    rw [if_pos (by simp; omega), at_is l t (a + b) (by omega) _ (by omega)]
    simp only [Option.bind_some, List.nil_append]
    rw [← win_meets hR t a b (by omega) (by omega), pts_self _ (by omega) _ (by omega)]
    simp only [Option.bind_some, if_true]
    unfold atP
    rw [if_pos m1]
    cases hx : (l.filter fun x => decide (x.f0 ≤ t)).getLast? with
    | none => rfl
    | some x =>
      cases ho : okP t (a + b) x with
      | false => simp only [ho, Bool.false_eq_true, if_false]
      | true =>
        obtain ⟨q1, q2, q3⟩ := last_rd (win_last hR t (a + b) x hx ho) (by omega)
        have hq : ((winP l t (a + b)).length : Int) > 0 := by omega
        have hq1 : ((((winP l t (a + b)).length - 1 : Nat) : Int)) < ((winP l t (a + b)).length : Int) := by omega
        simp only [ho, if_true]
        rw [if_pos hq, q2, if_pos (Int.natCast_nonneg _), if_pos hq1, q3, beq_self_eq_true]

theorem wider_at (t a : Int) (x y : List S29) (z : List S29) (hy : y = z ++ x) (hx : ∀ p ∈ x, stale p = false ∧ p.f0 ≤ t ∧ t - a < p.f0) (hl : y.length ≤ 1000) (ht : -2305843009213693952 ≤ t ∧ t ≤ 2305843009213693952) (ha : 1 ≤ a ∧ a ≤ 2305843009213693952) (d : Nat) :
    ∀ (k j : Nat), x.length - j = d → j ≤ x.length → d < k → soundingslaw06_PickWider.l0 k t a x y j = some true := by
  have hlen : y.length = z.length + x.length := by rw [hy, List.length_append]
  induction d with
  | zero =>
    intro k j hd hj hk
    obtain ⟨k, rfl⟩ : ∃ m, k = m + 1 := ⟨k - 1, by omega⟩
    simp only [soundingslaw06_PickWider.l0]
    rw [if_neg (by omega)]
  | succ d ih =>
    intro k j hd hj hk
    obtain ⟨k, rfl⟩ : ∃ m, k = m + 1 := ⟨k - 1, by omega⟩
    have hlt : j < x.length := by omega
    have w0 : Aside0 (wrap64 ((y.length : Int) - (x.length : Int)) = (z.length : Int)) := by constructor; rw [w64 _ (by omega) (by omega)]; omega
    have w1 : Aside0 (wrap64 ((z.length : Int) + (j : Int)) = ((z.length + j : Nat) : Int)) := by constructor; rw [w64 _ (by omega) (by omega)]; omega
    have w2 := Aside0.mk (w64_succ j (by omega))
    have w3 := Aside0.mk (w64 (t - a) (by omega) (by omega))
    have ey : y[z.length + j]'(by omega) = x[j] := by subst hy; rw [List.getElem_append_right (Nat.le_add_right _ _)]; exact getElem_congr_idx (Nat.add_sub_cancel_left _ _)
    obtain ⟨q1, q2, q3⟩ := hx x[j] (List.getElem_mem hlt)
    have q1' : ¬ x[j].f1 = 9218868437227405314 := by unfold stale at q1; rw [beq_eq_false_iff_ne] at q1; exact q1
    simp only [soundingslaw06_PickWider.l0]
    rw [w0.out, w1.out, w2.out, w3.out, if_pos (by omega), if_pos (by omega), if_pos (by omega), if_pos (by omega), rdP_at x j hlt, rdP_at y (z.length + j) (by omega), ey, if_neg (by rw [beq_self_eq_true, beq_self_eq_true]; decide), if_neg q1', if_neg (by omega), if_neg (by omega)]
    exact ih k (j + 1) (by omega) (by omega) (by omega)

theorem pickWider_pure (l : List S29) (t a b : Int) : ∃ k, soundingslaw06_PickWider.f k l t a b = some true := by
  refine ⟨l.length * 3 + 100 + 1 + 1, ?_⟩
  have hj : ∀ k, soundingslaw06_PickWider.j0 (k + 1) l t a b true = some true := fun k => rfl
  unfold soundingslaw06_PickWider.f
  rw [awake_is _ (by omega)]
  simp only [Option.bind_some, if_true]
  by_cases h : (l.length : Int) > 400
  · rw [if_pos h, hj]
  rw [if_neg h]
  by_cases h1 : a < 1
  · rw [if_pos h1, hj]
  rw [if_neg h1]
  by_cases h2 : b < a
  · rw [if_pos h2, hj]
  rw [if_neg h2, rmay_is l t b (by omega) _ (by omega)]
  simp only [Option.bind_some]
  cases hm : mayP l t b with
  | false => exact hj _
  | true =>
    obtain ⟨hA, hR, t0, t1, b0, b1⟩ := mayP_true hm
    have m1 : mayP l t a = true := decide_eq_true ⟨hA, hR, t0, t1, by omega, by omega⟩
    have hlen : ∀ t b, (winP l t b).length ≤ l.length := fun t b => List.length_filter_le _ _
    have e1 : winM l t a = winP l t a := by unfold winM; rw [if_pos m1]
    have e2 : winM l t b = winP l t b := by unfold winM; rw [if_pos hm]
    have l1 := hlen t a
    have l2 := hlen t b
    have hsplit : winP l t b = winP l (t - a) (b - a) ++ winP l t a := by
      have := win_meets hR t a (b - a) (by omega) (by omega)
      rwa [show a + (b - a) = b by omega] at this
    have l3 : (winP l t b).length = (winP l (t - a) (b - a)).length + (winP l t a).length := by rw [hsplit, List.length_append]
    have hend : ∀ k, l.length + 1 < k → soundingslaw06_PickWider.j1 (k + 1) t a (winP l t a) (winP l t b) false = some true := by
      intro k hk
      simp only [soundingslaw06_PickWider.j1]
      rw [if_neg (by simp)]
      refine wider_at t a (winP l t a) (winP l t b) _ hsplit (fun p hp => ?_) (by omega) ⟨t0, t1⟩ ⟨by omega, by omega⟩ (winP l t a).length k 0 (by omega) (by omega) (by omega)
      have := List.mem_filter.1 hp
      simp only [Bool.and_eq_true, decide_eq_true_eq, Bool.not_eq_true'] at this
      exact ⟨this.2.2, this.2.1.2, this.2.1.1⟩
    simp only [soundingslaw06_PickWider.j0, Bool.not_true]
    rw [if_neg (by simp), win_is l t a (by omega), win_is l t b (by omega), e1, e2]
    simp only [Option.bind_some]
    rw [at_is l t a (by omega) _ (by omega), at_is l t b (by omega) _ (by omega)]
    simp only [Option.bind_some]
    rw [if_neg (by omega)]
    unfold atP
    rw [if_pos m1, if_pos hm]
    cases hx : (l.filter fun x => decide (x.f0 ≤ t)).getLast? with
    | none => exact hend (l.length * 3 + 100) (by omega)
    | some x =>
      cases ho : okP t a x with
      | false =>
        simp only [ho, Bool.false_eq_true, if_false]
        exact hend (l.length * 3 + 100) (by omega)
      | true =>
        have ho2 : okP t b x = true := by
          unfold okP at ho ⊢
          simp only [Bool.and_eq_true, decide_eq_true_eq] at ho ⊢
          exact ⟨by omega, ho.2⟩
        simp only [ho, ho2, if_true]
        have : (x.f1 != x.f1) = false := by simp
        rw [this]
        exact hend (l.length * 3 + 100) (by omega)
end Go.Proofs.Ytmgbnnanophehaa.P
