/- Rows of elements of two cells in a block of the call's own: what an element's cells are, stores, cuts, clear; slices.Clone, IndexFunc, DeleteFunc lean on it. -/
import Derived.Test.YtmgbnnanophehaaWWords
import Derived.Laws.IdiomCopy
import Derived.Deep.Upon
import Derived.Lib.SliceRun
import Derived.Shelf.Abstract
namespace Go.Proofs.Ytmgbnnanophehaa.Two
open Go.RowKit Go.Proofs.YtmgbnnanophehaaW.PrintWords
set_option linter.unusedVariables false
set_option linter.unusedSimpArgs false

section
variable {α : Type} {E : TypeId} {e0 e1 : α → Value}

/-- Block g is a row of cap elements of type E; its first ys.length elements are ys. -/
def TwoBlk (E : TypeId) (e0 e1 : α → Value) (w : World) (g cap : Nat) (ys : List α) : Prop :=
  ∃ cs : Array Value, w.heap[g]? = some (.cells cs E (0, 0)) ∧ cs.size = cap * 2 ∧ ys.length ≤ cap ∧ cap ≤ maxLen ∧
    ∀ j (h : j < ys.length), cs[j * 2]? = some (e0 ys[j]) ∧ cs[j * 2 + 1]? = some (e1 ys[j])

theorem TwoBlk.lt {w : World} {g cap : Nat} {ys : List α} (h : TwoBlk E e0 e1 w g cap ys) : g < w.heap.size := by
  obtain ⟨cs, hg, _⟩ := h
  exact blk_lt hg
theorem TwoBlk.len {w : World} {g cap : Nat} {ys : List α} (h : TwoBlk E e0 e1 w g cap ys) : ys.length ≤ cap ∧ cap ≤ maxLen := by
  obtain ⟨cs, hg, _, h1, h2, _⟩ := h
  exact ⟨h1, h2⟩
theorem TwoBlk.cell {w : World} {g cap : Nat} {ys : List α} (h : TwoBlk E e0 e1 w g cap ys) (j : Nat) (hj : j < ys.length) :
    w.cell? ⟨g, j * 2, none⟩ = some (e0 ys[j]) ∧ w.cell? ⟨g, j * 2 + 1, none⟩ = some (e1 ys[j]) := by
  obtain ⟨cs, hg, _, _, _, hc⟩ := h
  exact ⟨(blk_cell hg _).trans (hc j hj).1, (blk_cell hg _).trans (hc j hj).2⟩
theorem TwoBlk.frozen {w : World} {g cap : Nat} {ys : List α} (h : TwoBlk E e0 e1 w g cap ys) (i : Nat) : w.frozen? ⟨g, i, none⟩ = false := by
  obtain ⟨cs, hg, _⟩ := h
  exact blk_frozen hg i
theorem TwoBlk.of_block {w w1 : World} {g cap : Nat} {ys : List α} (h : TwoBlk E e0 e1 w g cap ys) (e : w1.heap[g]? = w.heap[g]?) : TwoBlk E e0 e1 w1 g cap ys := by
  obtain ⟨cs, hg, r⟩ := h
  exact ⟨cs, e.trans hg, r⟩
theorem TwoBlk.below {w w1 : World} {g cap B : Nat} {ys : List α} (h : TwoBlk E e0 e1 w g cap ys) (hb : Below B w w1) (hB : g < B) : TwoBlk E e0 e1 w1 g cap ys :=
  h.of_block (hb.block g hB)
theorem TwoBlk.take {w : World} {g cap : Nat} {ys : List α} (h : TwoBlk E e0 e1 w g cap ys) (k : Nat) : TwoBlk E e0 e1 w g cap (ys.take k) := by
  obtain ⟨cs, hg, hs, hl, hm, hc⟩ := h
  refine ⟨cs, hg, hs, by rw [List.length_take]; omega, hm, fun j hj => ?_⟩
  rw [List.length_take] at hj
  rw [List.getElem_take]
  exact hc j (by omega)
theorem TwoBlk.set_ {w : World} {g cap : Nat} {ys : List α} (h : TwoBlk E e0 e1 w g cap ys) (i : Nat) (hi : i < ys.length) (x : α) :
    TwoBlk E e0 e1 ((w.setCell ⟨g, i * 2, none⟩ (e0 x)).setCell ⟨g, i * 2 + 1, none⟩ (e1 x)) g cap (ys.set i x) := by
  obtain ⟨cs, hg, hs, hl, hm, hc⟩ := h
  refine ⟨_, blk_set (blk_set hg _ _) _ _, by simp [hs], by simpa using hl, hm, fun j hj => ?_⟩
  rw [List.length_set] at hj
  have hcs : i * 2 + 1 < cs.size := by omega
  obtain ⟨h0, h1⟩ := hc j hj
  by_cases e : i = j
  · subst e
    constructor
    · rw [Array.getElem?_setIfInBounds_ne (by omega), Array.getElem?_setIfInBounds_self, if_pos (by omega)]
      simp
    · rw [Array.getElem?_setIfInBounds_self, if_pos (by simpa using hcs)]
      simp
  · rw [List.getElem_set_ne e]
    constructor
    · rw [Array.getElem?_setIfInBounds_ne (by omega), Array.getElem?_setIfInBounds_ne (by omega)]; exact h0
    · rw [Array.getElem?_setIfInBounds_ne (by omega), Array.getElem?_setIfInBounds_ne (by omega)]; exact h1
theorem below_set2 {B : Nat} {u w : World} {g i j : Nat} {a b : Value} (h : Below B u w) (hB : B ≤ g) : Below B u ((w.setCell ⟨g, i, none⟩ a).setCell ⟨g, j, none⟩ b) :=
  (h.setCell hB _).setCell hB _

theorem heap_setCells (b : Nat) : ∀ (vs : List Value) (o : Nat) (w : World) (cs : Array Value) (t : TypeId), w.heap[b]? = some (.cells cs t (0, 0)) → ∃ cs' : Array Value, (w.setCells b o vs).heap[b]? = some (.cells cs' t (0, 0)) ∧ cs'.size = cs.size ∧ ∀ j, j < o → cs'[j]? = cs[j]?
  | [], o, w, cs, t, h => ⟨cs, h, rfl, fun _ _ => rfl⟩
  | v :: r, o, w, cs, t, h => by
    obtain ⟨cs', h1, h2, h3⟩ := heap_setCells b r (o + 1) _ _ t (blk_set h o v)
    refine ⟨cs', h1, by rw [h2]; simp, fun j hj => ?_⟩
    rw [h3 j (by omega), Array.getElem?_setIfInBounds_ne (by omega)]
theorem below_setCells {B b : Nat} (hb : B ≤ b) : ∀ (vs : List Value) (o : Nat) {u w : World}, Below B u w → Below B u (w.setCells b o vs)
  | [], _, _, _, h => h
  | v :: r, o, _, _, h => below_setCells hb r (o + 1) (h.setCell hb _)
theorem TwoBlk.clear_ {w : World} {g cap : Nat} {ys : List α} (h : TwoBlk E e0 e1 w g cap ys) (k : Nat) (hk : k ≤ ys.length) (vs : List Value) :
    TwoBlk E e0 e1 (w.setCells g (k * 2) vs) g cap (ys.take k) := by
  obtain ⟨cs, hg, hs, hl, hm, hc⟩ := h
  obtain ⟨cs', h1, h2, h3⟩ := heap_setCells g vs (k * 2) w cs E hg
  refine ⟨cs', h1, h2.trans hs, by rw [List.length_take]; omega, hm, fun j hj => ?_⟩
  rw [List.length_take] at hj
  rw [List.getElem_take, h3 _ (by omega), h3 _ (by omega)]
  exact hc j (by omega)

/-- clear(s), s a piece of such a row, up to its end. -/
theorem run_clear_two {P : Program} {w : World} {g cap : Nat} {ys : List α} (h : TwoBlk E e0 e1 w g cap ys) (t ty : TypeId) (z0 z1 : Value) (ht : P.underlying t = some (.slice E)) (hv : ∀ w, (zeroValue E).run P w = .ok (.agg #[z0, z1]) w)
    (h0 : z0.oneCell' = true) (h1 : z1.oneCell' = true) (k : Nat) (hk : k < ys.length) (c : Nat) :
    ∃ vs, (Builtin.clear_ #[t] ty #[.slice (some ⟨g, k * 2, none⟩) (ys.length - k) c]).run P w = .ok (.tuple #[]) (w.setCells g (k * 2) vs) := by
  obtain ⟨m, hm⟩ : ∃ m, ys.length - k = m + 1 := ⟨ys.length - k - 1, by omega⟩
  obtain ⟨cs, hg, hs, hl, hmx, hc⟩ := h
  have hone : ∀ v ∈ (Builtin.zeroCells (Value.agg #[z0, z1]).cells (m + 1)).toList, v.oneCell' = true := by
    intro v hv
    simp only [Builtin.zeroCells, Value.cells] at hv
    obtain ⟨i, hi, rfl⟩ := List.mem_iff_getElem.1 hv
    simp only [Array.getElem_toList, Array.getElem_map, Array.getElem_range]
    rcases Nat.mod_two_eq_zero_or_one i with e | e <;> simp [e, h0, h1]
  have hlen : (Builtin.zeroCells (Value.agg #[z0, z1]).cells (m + 1)).toList.length = (m + 1) * 2 := by
    simp [Builtin.zeroCells, Value.cells]
  generalize hvs : (Builtin.zeroCells (Value.agg #[z0, z1]).cells (m + 1)).toList = vs at hone hlen
  have hst := run_storeCells_cells (P := P) g (k * 2) vs 0 w (fun j hj => by
      rw [blk_cell hg, Array.getElem?_eq_getElem (by omega)]; rfl) (fun j hj => blk_frozen hg _) hone
  refine ⟨vs, ?_⟩
  rw [hm]
  simp only [Nat.add_zero] at hst
  simp [Builtin.clear_, run_underlying ht, hv, hvs, hst]

/-- What a row of the call's own, of elements without rows inside, is in memory. -/
theorem own_two {w : World} {B n : Nat} {v : Value} {xs : List Value} (h : w.ownsRow B E 2 v n xs) (ys : List α) (hn : ys.length = n)
    (hx : ∀ j (hj : j < ys.length), xs[j * 2]? = some (e0 ys[j]) ∧ xs[j * 2 + 1]? = some (e1 ys[j])) :
    (v = .slice none 0 0 ∧ ys = []) ∨ ∃ g cap, v = .slice (some ⟨g, 0, none⟩) ys.length cap ∧ B ≤ g ∧ TwoBlk E e0 e1 w g cap ys := by
  obtain ⟨h1, h2⟩ := h
  rcases h2 with ⟨rfl, rfl⟩ | ⟨g, cap, cur, rfl, hg, hh, hle, hm, hs, ht⟩
  · exact .inl ⟨rfl, List.eq_nil_of_length_eq_zero hn⟩
  · refine .inr ⟨g, cap, by rw [hn], hg, cur, hh, hs, by omega, hm, fun j hj => ?_⟩
    have key : ∀ i, i < n * 2 → cur[i]? = xs[i]? := fun i hi => by
      rw [← ht, List.getElem?_take_of_lt hi, Array.getElem?_toList]
    rw [key _ (by omega), key _ (by omega)]
    exact hx j hj
theorem two_own {w : World} {B g cap : Nat} {ys : List α} (h : TwoBlk E e0 e1 w g cap ys) (hB : B ≤ g) :
    w.ownsRow B E 2 (.slice (some ⟨g, 0, none⟩) ys.length cap) ys.length (ys.flatMap fun x => [e0 x, e1 x]) := by
  obtain ⟨cs, hg, hs, hl, hm, hc⟩ := h
  have hlen : ∀ l : List α, (l.flatMap fun x => [e0 x, e1 x]).length = l.length * 2 := by
    intro l; induction l with
    | nil => rfl
    | cons x r ih => simp [List.flatMap_cons, ih]; omega
  refine ⟨hlen ys, .inr ⟨g, cap, cs, rfl, hB, hg, hl, hm, hs, ?_⟩⟩
  have key : ∀ (l : List α) (j : Nat) (hj : j < l.length), (l.flatMap fun x => [e0 x, e1 x])[j * 2]? = some (e0 l[j]) ∧ (l.flatMap fun x => [e0 x, e1 x])[j * 2 + 1]? = some (e1 l[j]) := by
    intro l; induction l with
    | nil => intro j hj; simp at hj
    | cons x r ih =>
      intro j hj
      cases j with
      | zero => simp [List.flatMap_cons]
      | succ j =>
        have := ih j (by simpa using hj)
        rw [show (j + 1) * 2 = j * 2 + 1 + 1 by omega]
        simpa [List.flatMap_cons] using this
  apply List.ext_getElem?
  intro i
  rcases Nat.lt_or_ge i (ys.length * 2) with hi | hi
  · rw [List.getElem?_take_of_lt hi, Array.getElem?_toList]
    rcases Nat.mod_two_eq_zero_or_one i with e | e
    · obtain ⟨j, rfl⟩ : ∃ j, i = j * 2 := ⟨i / 2, by omega⟩
      rw [(hc j (by omega)).1, (key ys j (by omega)).1]
    · obtain ⟨j, rfl⟩ : ∃ j, i = j * 2 + 1 := ⟨i / 2, by omega⟩
      rw [(hc j (by omega)).2, (key ys j (by omega)).2]
  · rw [List.getElem?_eq_none (by rw [List.length_take]; omega), List.getElem?_eq_none (by rw [hlen]; omega)]
end

section
variable {α : Type}
/-- Where the first one is of which p holds; -1: there is none. -/
def idxP (p : α → Bool) (l : List α) : Int := if l.findIdx p < l.length then (l.findIdx p : Int) else -1
theorem idxP_hit (p : α → Bool) (l : List α) (j : Nat) (h : j < l.length) (h1 : ∀ i (hi : i < j), p (l[i]'(by omega)) = false) (h2 : p l[j] = true) : idxP p l = j := by
  have e : l.findIdx p = j := by
    rw [List.findIdx_eq h]
    exact ⟨h2, fun i hi => h1 i hi⟩
  rw [idxP, e, if_pos h]
theorem idxP_none (p : α → Bool) (l : List α) (h1 : ∀ i (hi : i < l.length), p l[i] = false) : idxP p l = -1 := by
  have e : ¬ l.findIdx p < l.length := by
    rw [List.findIdx_lt_length]
    rintro ⟨x, hx, hp⟩
    obtain ⟨i, hi, rfl⟩ := List.mem_iff_getElem.1 hx
    rw [h1 i hi] at hp
    cases hp
  rw [idxP, if_neg e]
theorem idxP_cases (p : α → Bool) (l : List α) : (idxP p l = -1 ∧ l.filter (fun x => !p x) = l) ∨ ∃ i, idxP p l = (i : Nat) ∧ i < l.length ∧ (l.take (i + 1)).filter (fun x => !p x) = l.take i := by
  by_cases h : l.findIdx p < l.length
  · right
    refine ⟨l.findIdx p, by rw [idxP, if_pos h], h, ?_⟩
    have h1 : ∀ i (hi : i < l.findIdx p), p (l[i]'(by omega)) = false := fun i hi => by simpa using List.not_of_lt_findIdx hi
    have h2 : p l[l.findIdx p] = true := List.findIdx_getElem
    rw [List.take_succ_eq_append_getElem h, List.filter_append, List.filter_cons, h2]
    simp only [Bool.not_true, Bool.false_eq_true, if_false, List.filter_nil, List.append_nil]
    rw [List.filter_eq_self]
    intro x hx
    obtain ⟨i, hi, rfl⟩ := List.mem_iff_getElem.1 hx
    rw [List.length_take] at hi
    rw [List.getElem_take, h1 i (by omega)]
    rfl
  · left
    refine ⟨by rw [idxP, if_neg h], ?_⟩
    rw [List.filter_eq_self]
    intro x hx
    have : ¬ ∃ x, x ∈ l ∧ p x = true := by rw [← List.findIdx_lt_length]; exact h
    cases hb : p x with
    | false => rfl
    | true => exact absurd ⟨x, hx, hb⟩ this

/-- slices.DeleteFunc's rounds: the first i elements are those of the first j that stay. -/
structure Del (p : α → Bool) (l ys : List α) (i j : Nat) : Prop where
  len : ys.length = l.length
  le : i ≤ j
  lej : j ≤ l.length
  front : ys.take i = (l.take j).filter (fun x => !p x)
  back : ys.drop j = l.drop j
theorem Del.at_ {p : α → Bool} {l ys : List α} {i j : Nat} (h : Del p l ys i j) (hj : j < l.length) : ∃ (h1 : j < ys.length), ys[j] = l[j] := by
  have h1 : j < ys.length := by have := h.len; omega
  refine ⟨h1, ?_⟩
  have := congrArg (fun z => z[0]?) h.back
  simpa [List.getElem?_drop, h1, hj] using this
theorem Del.drop_ {p : α → Bool} {l ys : List α} {i j : Nat} (h : Del p l ys i j) (hj : j < l.length) (hp : p l[j] = true) : Del p l ys i (j + 1) := by
  refine ⟨h.len, Nat.le_succ_of_le h.le, hj, ?_, ?_⟩
  · rw [h.front, List.take_succ_eq_append_getElem hj, List.filter_append, List.filter_cons, hp]
    simp
  · rw [← List.drop_drop, h.back, List.drop_drop]
theorem Del.keep_ {p : α → Bool} {l ys : List α} {i j : Nat} (h : Del p l ys i j) (hlt : i < j) (hj : j < l.length) (hp : p l[j] = false) : Del p l (ys.set i l[j]) (i + 1) (j + 1) := by
  have hi : i < ys.length := by have := h.len; omega
  refine ⟨by rw [List.length_set]; exact h.len, by omega, hj, ?_, ?_⟩
  · rw [List.take_succ_eq_append_getElem (by rw [List.length_set]; exact hi), List.getElem_set_self, List.take_set_of_le (Nat.le_refl _), h.front, List.take_succ_eq_append_getElem hj, List.filter_append, List.filter_cons, hp]
    simp
  · rw [List.drop_set_of_lt (by omega), ← List.drop_drop, h.back, List.drop_drop]
theorem Del.start {p : α → Bool} {l : List α} {i : Nat} (hi : i < l.length) (h : (l.take (i + 1)).filter (fun x => !p x) = l.take i) : Del p l l i (i + 1) :=
  ⟨rfl, by omega, hi, h.symm, rfl⟩
theorem Del.done {p : α → Bool} {l ys : List α} {i j : Nat} (h : Del p l ys i j) (hj : j = l.length) : ys.take i = l.filter (fun x => !p x) := by
  subst hj
  have := h.front
  rwa [List.take_length] at this
end
end Go.Proofs.Ytmgbnnanophehaa.Two
