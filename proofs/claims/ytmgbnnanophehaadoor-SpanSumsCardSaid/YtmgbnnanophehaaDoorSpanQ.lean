/- soundingsref07.Parse, as it was printed, comes to what span.Parse comes to. -/
import Derived.Test.YtmgbnnanophehaaDoorSx47
import Derived.Test.YtmgbnnanophehaaDoorSpanL
import Derived.Lib.Strings
namespace Go.Proofs.YtmgbnnanophehaaDoor.Span
open Go.Proofs Go.RowKit Go.Proofs.YtmgbnnanophehaaDoorW.PrintWords Go.Proofs.YtmgbnnanophehaaDoorW.PrintLast Go.Proofs.YtmgbnnanophehaaDoor.S
set_option linter.unusedVariables false
/-- From some number of steps on it is x. -/
def Ev {α : Type} (f : Nat → Option α) (x : α) : Prop := ∃ K, ∀ k, K ≤ k → f k = some x
theorem Ev.step {α : Type} {f g : Nat → Option α} {x : α} (h : Ev g x) (e : ∀ k, f (k + 1) = g k) : Ev f x := by
  obtain ⟨K, hK⟩ := h
  refine ⟨K + 1, fun k hk => ?_⟩
  obtain ⟨m, rfl⟩ : ∃ m, k = m + 1 := ⟨k - 1, by omega⟩
  rw [e m]
  exact hK m (by omega)
theorem Ev.eq {α : Type} {f g : Nat → Option α} {x : α} (h : Ev g x) (e : ∀ k, f k = g k) : Ev f x := by
  obtain ⟨K, hK⟩ := h
  exact ⟨K, fun k hk => by rw [e k]; exact hK k hk⟩
theorem Ev.done {α : Type} {f : Nat → Option α} {x : α} (e : ∀ k, f (k + 1) = some x) : Ev f x :=
  ⟨1, fun k hk => by obtain ⟨m, rfl⟩ : ∃ m, k = m + 1 := ⟨k - 1, by omega⟩; exact e m⟩
theorem Ev.bind {α β : Type} {f : Nat → Option α} {x : α} {g : α → Nat → Option β} {y : β} (h : Ev f x) (hg : Ev (g x) y) : Ev (fun k => (f k).bind fun t => g t k) y := by
  obtain ⟨K, hK⟩ := h
  obtain ⟨L, hL⟩ := hg
  refine ⟨max K L, fun k hk => ?_⟩
  show (f k).bind (fun t => g t k) = _
  rw [hK k (by omega)]
  exact hL k (by omega)
theorem bt_drop {s : ByteArray} {i : Nat} {c : UInt8} {r : List UInt8} (h : s.data.toList.drop i = c :: r) : bt s (i : Int) = (c.toNat : Int) ∧ i < s.size ∧ s.data.toList.drop (i + 1) = r := by
  have hlt : i < s.data.toList.length := by
    rcases Nat.lt_or_ge i s.data.toList.length with h1 | h1
    · exact h1
    · rw [List.drop_eq_nil_of_le h1] at h; cases h
  have hs : i < s.size := by simpa using hlt
  have e := List.drop_eq_getElem_cons hlt
  rw [h] at e
  refine ⟨?_, hs, ?_⟩
  · unfold bt
    rw [dif_pos (by simpa using hs)]
    have e1 := (List.cons.inj e).1
    rw [e1]
    simp
    rfl
  · exact (List.cons.inj e).2.symm
theorem drop_nil {s : ByteArray} {i : Nat} (h : s.data.toList.drop i = []) : s.size ≤ i := by
  have := List.drop_eq_nil_iff.1 h
  simpa using this
theorem wrap_succ {i n : Nat} (h : i < n) (hn : n < 4611686018427387904) : wrap64 ((i : Int) + 1) = ((i + 1 : Nat) : Int) := by unfold wrap64; omega

theorem part_l1 (s : ByteArray) (hs : s.size < 4611686018427387904) (x1 x8 x9 : Int) (X : Int × Int × Int × Bool) (l : List UInt8) : ∀ i : Nat, s.data.toList.drop i = l →
    Ev (fun k => soundingsref07_part.j3 k s x1 x8 x9 ((i + (l.takeWhile nonDig).length : Nat) : Int)) X → Ev (fun k => soundingsref07_part.l1 k s x1 x8 x9 (i : Int)) X := by
  induction l with
  | nil =>
    intro i h hE
    have := drop_nil h
    refine hE.step fun k => ?_
    simp only [soundingsref07_part.l1]
    rw [if_neg (by omega)]
    rfl
  | cons c r ih =>
    intro i h hE
    obtain ⟨hb, hi, hr⟩ := bt_drop h
    by_cases hc : isDig c = true
    · have h2 := dig_rng hc
      rw [List.takeWhile_cons_of_neg (by unfold nonDig; simp [hc])] at hE
      refine hE.step fun k => ?_
      simp only [soundingsref07_part.l1]
      rw [if_pos (by omega), if_pos (by omega), hb, if_neg (by omega), if_neg (by omega)]
      rfl
    · rw [List.takeWhile_cons_of_pos (by unfold nonDig; simpa using hc), List.length_cons, show i + ((r.takeWhile nonDig).length + 1) = i + 1 + (r.takeWhile nonDig).length by omega] at hE
      have h3 := ih (i + 1) hr hE
      have hc2 : (c.toNat : Int) < 48 ∨ (c.toNat : Int) > 57 := by unfold isDig at hc; simp at hc; omega
      refine h3.step fun k => ?_
      simp only [soundingsref07_part.l1]
      rw [if_pos (by omega), if_pos (by omega), hb, wrap_succ hi hs]
      by_cases h4 : (c.toNat : Int) < 48
      · rw [if_pos h4]
      · rw [if_neg h4, if_pos (by omega)]
theorem part_l0 (s : ByteArray) (hs : s.size < 4611686018427387904) (x9 : Int) (X : Int × Int × Int × Bool) (l : List UInt8) : ∀ (i : Nat) (n : Int), s.data.toList.drop i = l → 0 ≤ n → n ≤ M + 1 →
    Ev (fun k => soundingsref07_part.l1 k s ((i + (l.takeWhile isDig).length : Nat) : Int) (capL n l) x9 ((i + (l.takeWhile isDig).length : Nat) : Int)) X → Ev (fun k => soundingsref07_part.l0 k s (i : Int) n x9) X := by
  induction l with
  | nil =>
    intro i n h h0 h1 hE
    have := drop_nil h
    have hE2 : Ev (fun k => soundingsref07_part.j1 k s (i : Int) n x9 false) X := hE.step fun k => by
      simp only [soundingsref07_part.j1]
      rw [if_neg (by decide)]
      rfl
    refine hE2.step fun k => ?_
    simp only [soundingsref07_part.l0]
    rw [if_neg (by omega)]
  | cons c r ih =>
    intro i n h h0 h1 hE
    obtain ⟨hb, hi, hr⟩ := bt_drop h
    by_cases hc : isDig c = true
    · have h2 := dig_rng hc
      rw [List.takeWhile_cons_of_pos hc, List.length_cons, show i + ((r.takeWhile isDig).length + 1) = i + 1 + (r.takeWhile isDig).length by omega] at hE
      simp only [capL] at hE
      rw [if_pos hc] at hE
      have h3 := ih (i + 1) _ hr (by split <;> first | decide | omega) (by split <;> omega) hE
      have hE2 : Ev (fun k => soundingsref07_part.j1 k s (i : Int) n x9 true) X := h3.step fun k => by
        simp only [soundingsref07_part.j1]
        have ew : wrap64 (wrap64 (10 * n) + ((c.toNat : Int) - 48) % 256) = 10 * n + ((c.toNat : Int) - 48) := by unfold M at h1; unfold wrap64; omega
        rw [if_pos trivial, if_pos (by omega), if_pos (by omega), hb, ew, wrap_succ hi hs]
        by_cases h4 : 10 * n + ((c.toNat : Int) - 48) > M + 1
        · rw [if_pos h4, if_pos (show 10 * n + ((c.toNat : Int) - 48) > 35184372088833 from h4)]; rfl
        · rw [if_neg h4, if_neg (show ¬ 10 * n + ((c.toNat : Int) - 48) > 35184372088833 from h4)]
      refine hE2.step fun k => ?_
      simp only [soundingsref07_part.l0]
      rw [if_pos (by omega), if_pos (by omega), hb, if_pos (by omega), decide_eq_true (by omega)]
    · rw [List.takeWhile_cons_of_neg hc] at hE
      simp only [capL] at hE
      rw [if_neg hc] at hE
      have hc2 : (c.toNat : Int) < 48 ∨ (c.toNat : Int) > 57 := by unfold isDig at hc; simp at hc; omega
      have hE2 : Ev (fun k => soundingsref07_part.j1 k s (i : Int) n x9 false) X := hE.step fun k => by
        simp only [soundingsref07_part.j1]
        rw [if_neg (by decide)]
        rfl
      refine hE2.step fun k => ?_
      simp only [soundingsref07_part.l0]
      rw [if_pos (by omega), if_pos (by omega), hb]
      by_cases h4 : (c.toNat : Int) ≥ 48
      · rw [if_pos h4, decide_eq_false (by omega)]
      · rw [if_neg h4]

def uL : List ByteArray := [(⟨#[121]⟩ : ByteArray), (⟨#[119]⟩ : ByteArray), (⟨#[100]⟩ : ByteArray), (⟨#[104]⟩ : ByteArray), (⟨#[109]⟩ : ByteArray), (⟨#[115]⟩ : ByteArray), (⟨#[109, 115]⟩ : ByteArray)]
theorem l2_step (s : ByteArray) (x1 x8 x9 x10 : Nat) (v : Int) (h1 : x1 ≤ x10) (h2 : x10 ≤ s.size) (j : Nat) (hj : j < 7) (nm : List UInt8) (hn : (rdOf ByteArray.empty uL (j : Int)).data.toList = nm) (Y : Int × Int × Int × Bool)
    (h : Ev (fun k => soundingsref07_part.l2 k s (x1 : Int) v (x9 : Int) (x10 : Int) uL ((j + 1 : Nat) : Int)) Y) :
    Ev (fun k => soundingsref07_part.l2 k s (x1 : Int) v (x9 : Int) (x10 : Int) uL (j : Int)) (if x9 < x1 then (if nm = (s.extract x1 x10).data.toList then (v, (j : Int), (x10 : Int), true) else Y) else Y) := by
  have w : wrap64 ((j : Int) + 1) = ((j + 1 : Nat) : Int) := by unfold wrap64; omega
  have hl : ((j : Int) < (uL.length : Int)) := by show (j : Int) < 7; omega
  by_cases hx : x9 < x1
  · rw [if_pos hx]
    by_cases he : nm = (s.extract x1 x10).data.toList
    · rw [if_pos he]
      refine Ev.done fun k => ?_
      simp only [soundingsref07_part.l2]
      rw [if_pos hl, if_pos (by omega), if_pos (by omega), if_pos (by omega), if_pos (by omega), if_pos (by omega), if_pos ?_]
      rw [Lib.toList_data, Lib.toList_data, hn, he]; rfl
    · rw [if_neg he]
      refine h.step fun k => ?_
      simp only [soundingsref07_part.l2]
      rw [if_pos hl, if_pos (by omega), if_pos (by omega), if_pos (by omega), if_pos (by omega), if_pos (by omega), if_neg ?_, w]
      rw [Lib.toList_data, Lib.toList_data, hn]
      intro e; exact he e.symm
  · rw [if_neg hx]
    refine h.step fun k => ?_
    simp only [soundingsref07_part.l2]
    rw [if_pos hl, if_neg (by omega), w]
def partR (v : Int) (x9 x1 x10 : Nat) (U : List UInt8) : Int × Int × Int × Bool :=
  if x9 < x1 then (match findU U units 0 with | some k => (v, (k : Int), (x10 : Int), true) | none => (0, 0, 0, false)) else (0, 0, 0, false)
theorem part_j3 (s : ByteArray) (x1 x9 x10 : Nat) (v : Int) (h1 : x1 ≤ x10) (h2 : x10 ≤ s.size) :
    Ev (fun k => soundingsref07_part.j3 k s (x1 : Int) v (x9 : Int) (x10 : Int)) (partR v x9 x1 x10 (s.extract x1 x10).data.toList) := by
  have e7 : Ev (fun k => soundingsref07_part.l2 k s (x1 : Int) v (x9 : Int) (x10 : Int) uL ((7 : Nat) : Int)) (0, 0, 0, false) := Ev.done fun k => by
    simp only [soundingsref07_part.l2]
    rw [if_neg (by decide)]
  have e6 := l2_step s x1 0 x9 x10 v h1 h2 6 (by omega) [109, 115] rfl _ e7
  have e5 := l2_step s x1 0 x9 x10 v h1 h2 5 (by omega) [115] rfl _ e6
  have e4 := l2_step s x1 0 x9 x10 v h1 h2 4 (by omega) [109] rfl _ e5
  have e3 := l2_step s x1 0 x9 x10 v h1 h2 3 (by omega) [104] rfl _ e4
  have e2 := l2_step s x1 0 x9 x10 v h1 h2 2 (by omega) [100] rfl _ e3
  have e1 := l2_step s x1 0 x9 x10 v h1 h2 1 (by omega) [119] rfl _ e2
  have e0 := l2_step s x1 0 x9 x10 v h1 h2 0 (by omega) [121] rfl _ e1
  clear e7 e6 e5 e4 e3 e2 e1
  generalize (s.extract x1 x10).data.toList = U at e0 ⊢
  have key : ∀ X, Ev (fun k => soundingsref07_part.l2 k s (x1 : Int) v (x9 : Int) (x10 : Int) uL ((0 : Nat) : Int)) X → X = partR v x9 x1 x10 U → Ev (fun k => soundingsref07_part.j3 k s (x1 : Int) v (x9 : Int) (x10 : Int)) (partR v x9 x1 x10 U) := fun X h e => by
    rw [← e]
    exact h.step fun k => rfl
  refine key _ e0 ?_
  clear key e0
  unfold partR
  by_cases hx : x9 < x1
  · simp only [if_pos hx, findU, units]
    by_cases a0 : [121] = U
    · subst a0; rfl
    by_cases a1 : [119] = U
    · subst a1; rfl
    by_cases a2 : [100] = U
    · subst a2; rfl
    by_cases a3 : [104] = U
    · subst a3; rfl
    by_cases a4 : [109] = U
    · subst a4; rfl
    by_cases a5 : [115] = U
    · subst a5; rfl
    by_cases a6 : [109, 115] = U
    · subst a6; rfl
    rw [if_neg a0, if_neg a0, if_neg a1, if_neg a1, if_neg a2, if_neg a2, if_neg a3, if_neg a3, if_neg a4, if_neg a4, if_neg a5, if_neg a5, if_neg a6, if_neg a6]
  · simp only [if_neg hx]
theorem tk_tw {α : Type} (p : α → Bool) (l : List α) : l.take (l.takeWhile p).length = l.takeWhile p := List.prefix_iff_eq_take.1 (List.takeWhile_prefix p) |>.symm
theorem dr_tw {α : Type} (p : α → Bool) (l : List α) : l.drop (l.takeWhile p).length = l.dropWhile p := by
  have e2 := List.takeWhile_append_dropWhile (p := p) (l := l)
  calc l.drop (l.takeWhile p).length = (l.takeWhile p ++ l.dropWhile p).drop (l.takeWhile p).length := by rw [e2]
    _ = l.dropWhile p := List.drop_left
/-- soundingsref07.part. -/
theorem part_ev (s : ByteArray) (hs : s.size < 4611686018427387904) (i : Nat) (hi : i ≤ s.size) (l : List UInt8) (hl : s.data.toList.drop i = l) :
    Ev (fun k => soundingsref07_part.f k s (i : Int)) (partR (capL 0 l) i (i + (l.takeWhile isDig).length) (i + (l.takeWhile isDig).length + ((l.dropWhile isDig).takeWhile nonDig).length) ((l.dropWhile isDig).takeWhile nonDig)) := by
  have hlen : l.length = s.size - i := by rw [← hl]; simp
  have ht := congrArg List.length (List.takeWhile_append_dropWhile (p := isDig) (l := l))
  have ht2 := congrArg List.length (List.takeWhile_append_dropWhile (p := nonDig) (l := l.dropWhile isDig))
  rw [List.length_append] at ht ht2
  have hd : s.data.toList.drop (i + (l.takeWhile isDig).length) = l.dropWhile isDig := by rw [← List.drop_drop, hl, dr_tw]
  have e3 := part_j3 s (i + (l.takeWhile isDig).length) i (i + (l.takeWhile isDig).length + ((l.dropWhile isDig).takeWhile nonDig).length) (capL 0 l) (by omega) (by omega)
  have hU : (s.extract (i + (l.takeWhile isDig).length) (i + (l.takeWhile isDig).length + ((l.dropWhile isDig).takeWhile nonDig).length)).data.toList = (l.dropWhile isDig).takeWhile nonDig := by
    rw [ByteArray.data_extract, Array.toList_extract, List.extract_eq_take_drop, hd]
    rw [show i + (l.takeWhile isDig).length + ((l.dropWhile isDig).takeWhile nonDig).length - (i + (l.takeWhile isDig).length) = ((l.dropWhile isDig).takeWhile nonDig).length by omega, tk_tw]
  rw [hU] at e3
  have e1 := part_l1 s hs _ _ _ _ _ _ hd e3
  exact part_l0 s hs _ _ l i 0 hl (Int.le_refl _) (by decide) e1
end Go.Proofs.YtmgbnnanophehaaDoor.Span
