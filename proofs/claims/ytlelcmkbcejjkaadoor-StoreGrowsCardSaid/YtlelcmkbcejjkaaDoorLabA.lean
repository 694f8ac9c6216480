/- Rows of elements of two cells in a block of the call's own: what an element's cells are, stores, cuts, clear; slices.Clone, IndexFunc, DeleteFunc lean on it. slices.IndexFunc, Clone, DeleteFunc at a flat struct of two cells (S67): contracts. strings.Compare, cmp.Or of two, label's order: contracts in the form that slices.SortFunc asks for. Labels in plain Lean: orders that part whatever is not the same; of texts, of pairs, of lists; their sort. Labels in plain Lean: Right, Make; what Make comes to, however the labels lie. Labels in plain Lean: the reference's way to put one label among others. UTF-8, plain: the reference's way from rune to rune is the decoder's. Printed functions that go round: from some number of rounds on they answer x. Bytes of a text by its list. -/
import Derived.Test.YtlelcmkbcejjkaaDoorWWords
import Derived.Laws.IdiomCopy
import Derived.Deep.Upon
import Derived.Lib.SliceRun
import Derived.Shelf.Abstract
import Derived.Test.YtlelcmkbcejjkaaDoorLx0
import Derived.Deep.LoopGhost
import Derived.Lib.Hide
import Derived.Test.YtlelcmkbcejjkaaDoorProg
import Derived.WalkKit
import Derived.Lib.Strings
import Derived.Lib.Walk
import Derived.Lib.Bytealg
import Derived.StillTailTactics
import Derived.BigQuiet
import Derived.Deep.QuietTactic
import Derived.Sort.Grow
import Derived.Sort.LotA
import Derived.Shelf.SlSortCmp.NoneTotal
import Derived.Lib.ValidLaws
import Derived.Sort.Walk0
namespace Go.Proofs.YtlelcmkbcejjkaaDoor.Two
open Go.RowKit Go.Proofs.YtlelcmkbcejjkaaDoorW.PrintWords
set_option linter.unusedVariables false
set_option linter.unusedSimpArgs false

section
variable {α : Type} {E : TypeId} {e0 e1 : α → Value}

/-- Block g is a row of cap elements of type E; its first ys.length elements are ys. -/
def TwoBlk (E : TypeId) (e0 e1 : α → Value) (w : World) (g cap : Nat) (ys : List α) : Prop :=
  ∃ cs : Array Value, w.heap[g]? = some (.cells cs E (0, 0)) ∧ cs.size = cap * 2 ∧ ys.length ≤ cap ∧ cap ≤ maxLen ∧
    ∀ j (h : j < ys.length), cs[j * 2]? = some (e0 ys[j]) ∧ cs[j * 2 + 1]? = some (e1 ys[j])

theorem TwoBlk.lt {w : World} {g cap : Nat} {ys : List α} (h : TwoBlk E e0 e1 w g cap ys) : g < w.heap.size := by
  obtain ⟨cs, hg, _⟩ := h
  exact blk_lt hg
theorem TwoBlk.len {w : World} {g cap : Nat} {ys : List α} (h : TwoBlk E e0 e1 w g cap ys) : ys.length ≤ cap ∧ cap ≤ maxLen := by
  obtain ⟨cs, hg, _, h1, h2, _⟩ := h
  exact ⟨h1, h2⟩
theorem TwoBlk.cell {w : World} {g cap : Nat} {ys : List α} (h : TwoBlk E e0 e1 w g cap ys) (j : Nat) (hj : j < ys.length) :
    w.cell? ⟨g, j * 2, none⟩ = some (e0 ys[j]) ∧ w.cell? ⟨g, j * 2 + 1, none⟩ = some (e1 ys[j]) := by
  obtain ⟨cs, hg, _, _, _, hc⟩ := h
  exact ⟨(blk_cell hg _).trans (hc j hj).1, (blk_cell hg _).trans (hc j hj).2⟩
theorem TwoBlk.frozen {w : World} {g cap : Nat} {ys : List α} (h : TwoBlk E e0 e1 w g cap ys) (i : Nat) : w.frozen? ⟨g, i, none⟩ = false := by
  obtain ⟨cs, hg, _⟩ := h
  exact blk_frozen hg i
theorem TwoBlk.of_block {w w1 : World} {g cap : Nat} {ys : List α} (h : TwoBlk E e0 e1 w g cap ys) (e : w1.heap[g]? = w.heap[g]?) : TwoBlk E e0 e1 w1 g cap ys := by
  obtain ⟨cs, hg, r⟩ := h
  exact ⟨cs, e.trans hg, r⟩
theorem TwoBlk.below {w w1 : World} {g cap B : Nat} {ys : List α} (h : TwoBlk E e0 e1 w g cap ys) (hb : Below B w w1) (hB : g < B) : TwoBlk E e0 e1 w1 g cap ys :=
  h.of_block (hb.block g hB)
theorem TwoBlk.take {w : World} {g cap : Nat} {ys : List α} (h : TwoBlk E e0 e1 w g cap ys) (k : Nat) : TwoBlk E e0 e1 w g cap (ys.take k) := by
  obtain ⟨cs, hg, hs, hl, hm, hc⟩ := h
  refine ⟨cs, hg, hs, by rw [List.length_take]; omega, hm, fun j hj => ?_⟩
  rw [List.length_take] at hj
  rw [List.getElem_take]
  exact hc j (by omega)
theorem TwoBlk.set_ {w : World} {g cap : Nat} {ys : List α} (h : TwoBlk E e0 e1 w g cap ys) (i : Nat) (hi : i < ys.length) (x : α) :
    TwoBlk E e0 e1 ((w.setCell ⟨g, i * 2, none⟩ (e0 x)).setCell ⟨g, i * 2 + 1, none⟩ (e1 x)) g cap (ys.set i x) := by
  obtain ⟨cs, hg, hs, hl, hm, hc⟩ := h
  refine ⟨_, blk_set (blk_set hg _ _) _ _, by simp [hs], by simpa using hl, hm, fun j hj => ?_⟩
  rw [List.length_set] at hj
  have hcs : i * 2 + 1 < cs.size := by omega
  obtain ⟨h0, h1⟩ := hc j hj
  by_cases e : i = j
  · subst e
    constructor
    · rw [Array.getElem?_setIfInBounds_ne (by omega), Array.getElem?_setIfInBounds_self, if_pos (by omega)]
      simp
    · rw [Array.getElem?_setIfInBounds_self, if_pos (by simpa using hcs)]
      simp
  · rw [List.getElem_set_ne e]
    constructor
    · rw [Array.getElem?_setIfInBounds_ne (by omega), Array.getElem?_setIfInBounds_ne (by omega)]; exact h0
    · rw [Array.getElem?_setIfInBounds_ne (by omega), Array.getElem?_setIfInBounds_ne (by omega)]; exact h1
theorem below_set2 {B : Nat} {u w : World} {g i j : Nat} {a b : Value} (h : Below B u w) (hB : B ≤ g) : Below B u ((w.setCell ⟨g, i, none⟩ a).setCell ⟨g, j, none⟩ b) :=
  (h.setCell hB _).setCell hB _

theorem heap_setCells (b : Nat) : ∀ (vs : List Value) (o : Nat) (w : World) (cs : Array Value) (t : TypeId), w.heap[b]? = some (.cells cs t (0, 0)) → ∃ cs' : Array Value, (w.setCells b o vs).heap[b]? = some (.cells cs' t (0, 0)) ∧ cs'.size = cs.size ∧ ∀ j, j < o → cs'[j]? = cs[j]?
  | [], o, w, cs, t, h => ⟨cs, h, rfl, fun _ _ => rfl⟩
  | v :: r, o, w, cs, t, h => by
    obtain ⟨cs', h1, h2, h3⟩ := heap_setCells b r (o + 1) _ _ t (blk_set h o v)
    refine ⟨cs', h1, by rw [h2]; simp, fun j hj => ?_⟩
    rw [h3 j (by omega), Array.getElem?_setIfInBounds_ne (by omega)]
theorem below_setCells {B b : Nat} (hb : B ≤ b) : ∀ (vs : List Value) (o : Nat) {u w : World}, Below B u w → Below B u (w.setCells b o vs)
  | [], _, _, _, h => h
  | v :: r, o, _, _, h => below_setCells hb r (o + 1) (h.setCell hb _)
theorem TwoBlk.clear_ {w : World} {g cap : Nat} {ys : List α} (h : TwoBlk E e0 e1 w g cap ys) (k : Nat) (hk : k ≤ ys.length) (vs : List Value) :
    TwoBlk E e0 e1 (w.setCells g (k * 2) vs) g cap (ys.take k) := by
  obtain ⟨cs, hg, hs, hl, hm, hc⟩ := h
  obtain ⟨cs', h1, h2, h3⟩ := heap_setCells g vs (k * 2) w cs E hg
  refine ⟨cs', h1, h2.trans hs, by rw [List.length_take]; omega, hm, fun j hj => ?_⟩
  rw [List.length_take] at hj
  rw [List.getElem_take, h3 _ (by omega), h3 _ (by omega)]
  exact hc j (by omega)

/-- clear(s), s a piece of such a row, up to its end. -/
theorem run_clear_two {P : Program} {w : World} {g cap : Nat} {ys : List α} (h : TwoBlk E e0 e1 w g cap ys) (t ty : TypeId) (z0 z1 : Value) (ht : P.underlying t = some (.slice E)) (hv : ∀ w, (zeroValue E).run P w = .ok (.agg #[z0, z1]) w)
    (h0 : z0.oneCell' = true) (h1 : z1.oneCell' = true) (k : Nat) (hk : k < ys.length) (c : Nat) :
    ∃ vs, (Builtin.clear_ #[t] ty #[.slice (some ⟨g, k * 2, none⟩) (ys.length - k) c]).run P w = .ok (.tuple #[]) (w.setCells g (k * 2) vs) := by
  obtain ⟨m, hm⟩ : ∃ m, ys.length - k = m + 1 := ⟨ys.length - k - 1, by omega⟩
  obtain ⟨cs, hg, hs, hl, hmx, hc⟩ := h
  have hone : ∀ v ∈ (Builtin.zeroCells (Value.agg #[z0, z1]).cells (m + 1)).toList, v.oneCell' = true := by
    intro v hv
    simp only [Builtin.zeroCells, Value.cells] at hv
    obtain ⟨i, hi, rfl⟩ := List.mem_iff_getElem.1 hv
    simp only [Array.getElem_toList, Array.getElem_map, Array.getElem_range]
    rcases Nat.mod_two_eq_zero_or_one i with e | e <;> simp [e, h0, h1]
  have hlen : (Builtin.zeroCells (Value.agg #[z0, z1]).cells (m + 1)).toList.length = (m + 1) * 2 := by
    simp [Builtin.zeroCells, Value.cells]
  generalize hvs : (Builtin.zeroCells (Value.agg #[z0, z1]).cells (m + 1)).toList = vs at hone hlen
  have hst := run_storeCells_cells (P := P) g (k * 2) vs 0 w (fun j hj => by
      rw [blk_cell hg, Array.getElem?_eq_getElem (by omega)]; rfl) (fun j hj => blk_frozen hg _) hone
  refine ⟨vs, ?_⟩
  rw [hm]
  simp only [Nat.add_zero] at hst
  simp [Builtin.clear_, run_underlying ht, hv, hvs, hst]

/-- What a row of the call's own, of elements without rows inside, is in memory. -/
theorem own_two {w : World} {B n : Nat} {v : Value} {xs : List Value} (h : w.ownsRow B E 2 v n xs) (ys : List α) (hn : ys.length = n)
    (hx : ∀ j (hj : j < ys.length), xs[j * 2]? = some (e0 ys[j]) ∧ xs[j * 2 + 1]? = some (e1 ys[j])) :
    (v = .slice none 0 0 ∧ ys = []) ∨ ∃ g cap, v = .slice (some ⟨g, 0, none⟩) ys.length cap ∧ B ≤ g ∧ TwoBlk E e0 e1 w g cap ys := by
  obtain ⟨h1, h2⟩ := h
  rcases h2 with ⟨rfl, rfl⟩ | ⟨g, cap, cur, rfl, hg, hh, hle, hm, hs, ht⟩
  · exact .inl ⟨rfl, List.eq_nil_of_length_eq_zero hn⟩
  · refine .inr ⟨g, cap, by rw [hn], hg, cur, hh, hs, by omega, hm, fun j hj => ?_⟩
    have key : ∀ i, i < n * 2 → cur[i]? = xs[i]? := fun i hi => by
      rw [← ht, List.getElem?_take_of_lt hi, Array.getElem?_toList]
    rw [key _ (by omega), key _ (by omega)]
    exact hx j hj
theorem two_own {w : World} {B g cap : Nat} {ys : List α} (h : TwoBlk E e0 e1 w g cap ys) (hB : B ≤ g) :
    w.ownsRow B E 2 (.slice (some ⟨g, 0, none⟩) ys.length cap) ys.length (ys.flatMap fun x => [e0 x, e1 x]) := by
  obtain ⟨cs, hg, hs, hl, hm, hc⟩ := h
  have hlen : ∀ l : List α, (l.flatMap fun x => [e0 x, e1 x]).length = l.length * 2 := by
    intro l; induction l with
    | nil => rfl
    | cons x r ih => simp [List.flatMap_cons, ih]; omega
  refine ⟨hlen ys, .inr ⟨g, cap, cs, rfl, hB, hg, hl, hm, hs, ?_⟩⟩
  have key : ∀ (l : List α) (j : Nat) (hj : j < l.length), (l.flatMap fun x => [e0 x, e1 x])[j * 2]? = some (e0 l[j]) ∧ (l.flatMap fun x => [e0 x, e1 x])[j * 2 + 1]? = some (e1 l[j]) := by
    intro l; induction l with
    | nil => intro j hj; simp at hj
    | cons x r ih =>
      intro j hj
      cases j with
      | zero => simp [List.flatMap_cons]
      | succ j =>
        have := ih j (by simpa using hj)
        rw [show (j + 1) * 2 = j * 2 + 1 + 1 by omega]
        simpa [List.flatMap_cons] using this
  apply List.ext_getElem?
  intro i
  rcases Nat.lt_or_ge i (ys.length * 2) with hi | hi
  · rw [List.getElem?_take_of_lt hi, Array.getElem?_toList]
    rcases Nat.mod_two_eq_zero_or_one i with e | e
    · obtain ⟨j, rfl⟩ : ∃ j, i = j * 2 := ⟨i / 2, by omega⟩
      rw [(hc j (by omega)).1, (key ys j (by omega)).1]
    · obtain ⟨j, rfl⟩ : ∃ j, i = j * 2 + 1 := ⟨i / 2, by omega⟩
      rw [(hc j (by omega)).2, (key ys j (by omega)).2]
  · rw [List.getElem?_eq_none (by rw [List.length_take]; omega), List.getElem?_eq_none (by rw [hlen]; omega)]
end

section
variable {α : Type}
/-- Where the first one is of which p holds; -1: there is none. -/
def idxP (p : α → Bool) (l : List α) : Int := if l.findIdx p < l.length then (l.findIdx p : Int) else -1
theorem idxP_hit (p : α → Bool) (l : List α) (j : Nat) (h : j < l.length) (h1 : ∀ i (hi : i < j), p (l[i]'(by omega)) = false) (h2 : p l[j] = true) : idxP p l = j := by
  have e : l.findIdx p = j := by
    rw [List.findIdx_eq h]
    exact ⟨h2, fun i hi => h1 i hi⟩
  rw [idxP, e, if_pos h]
theorem idxP_none (p : α → Bool) (l : List α) (h1 : ∀ i (hi : i < l.length), p l[i] = false) : idxP p l = -1 := by
  have e : ¬ l.findIdx p < l.length := by
    rw [List.findIdx_lt_length]
    rintro ⟨x, hx, hp⟩
    obtain ⟨i, hi, rfl⟩ := List.mem_iff_getElem.1 hx
    rw [h1 i hi] at hp
    cases hp
  rw [idxP, if_neg e]
theorem idxP_cases (p : α → Bool) (l : List α) : (idxP p l = -1 ∧ l.filter (fun x => !p x) = l) ∨ ∃ i, idxP p l = (i : Nat) ∧ i < l.length ∧ (l.take (i + 1)).filter (fun x => !p x) = l.take i := by
  by_cases h : l.findIdx p < l.length
  · right
    refine ⟨l.findIdx p, by rw [idxP, if_pos h], h, ?_⟩
    have h1 : ∀ i (hi : i < l.findIdx p), p (l[i]'(by omega)) = false := fun i hi => by simpa using List.not_of_lt_findIdx hi
    have h2 : p l[l.findIdx p] = true := List.findIdx_getElem
    rw [List.take_succ_eq_append_getElem h, List.filter_append, List.filter_cons, h2]
    simp only [Bool.not_true, Bool.false_eq_true, if_false, List.filter_nil, List.append_nil]
    rw [List.filter_eq_self]
    intro x hx
    obtain ⟨i, hi, rfl⟩ := List.mem_iff_getElem.1 hx
    rw [List.length_take] at hi
    rw [List.getElem_take, h1 i (by omega)]
    rfl
  · left
    refine ⟨by rw [idxP, if_neg h], ?_⟩
    rw [List.filter_eq_self]
    intro x hx
    have : ¬ ∃ x, x ∈ l ∧ p x = true := by rw [← List.findIdx_lt_length]; exact h
    cases hb : p x with
    | false => rfl
    | true => exact absurd ⟨x, hx, hb⟩ this

/-- slices.DeleteFunc's rounds: the first i elements are those of the first j that stay. -/
structure Del (p : α → Bool) (l ys : List α) (i j : Nat) : Prop where
  len : ys.length = l.length
  le : i ≤ j
  lej : j ≤ l.length
  front : ys.take i = (l.take j).filter (fun x => !p x)
  back : ys.drop j = l.drop j
theorem Del.at_ {p : α → Bool} {l ys : List α} {i j : Nat} (h : Del p l ys i j) (hj : j < l.length) : ∃ (h1 : j < ys.length), ys[j] = l[j] := by
  have h1 : j < ys.length := by have := h.len; omega
  refine ⟨h1, ?_⟩
  have := congrArg (fun z => z[0]?) h.back
  simpa [List.getElem?_drop, h1, hj] using this
theorem Del.drop_ {p : α → Bool} {l ys : List α} {i j : Nat} (h : Del p l ys i j) (hj : j < l.length) (hp : p l[j] = true) : Del p l ys i (j + 1) := by
  refine ⟨h.len, Nat.le_succ_of_le h.le, hj, ?_, ?_⟩
  · rw [h.front, List.take_succ_eq_append_getElem hj, List.filter_append, List.filter_cons, hp]
    simp
  · rw [← List.drop_drop, h.back, List.drop_drop]
theorem Del.keep_ {p : α → Bool} {l ys : List α} {i j : Nat} (h : Del p l ys i j) (hlt : i < j) (hj : j < l.length) (hp : p l[j] = false) : Del p l (ys.set i l[j]) (i + 1) (j + 1) := by
  have hi : i < ys.length := by have := h.len; omega
  refine ⟨by rw [List.length_set]; exact h.len, by omega, hj, ?_, ?_⟩
  · rw [List.take_succ_eq_append_getElem (by rw [List.length_set]; exact hi), List.getElem_set_self, List.take_set_of_le (Nat.le_refl _), h.front, List.take_succ_eq_append_getElem hj, List.filter_append, List.filter_cons, hp]
    simp
  · rw [List.drop_set_of_lt (by omega), ← List.drop_drop, h.back, List.drop_drop]
theorem Del.start {p : α → Bool} {l : List α} {i : Nat} (hi : i < l.length) (h : (l.take (i + 1)).filter (fun x => !p x) = l.take i) : Del p l l i (i + 1) :=
  ⟨rfl, by omega, hi, h.symm, rfl⟩
theorem Del.done {p : α → Bool} {l ys : List α} {i j : Nat} (h : Del p l ys i j) (hj : j = l.length) : ys.take i = l.filter (fun x => !p x) := by
  subst hj
  have := h.front
  rwa [List.take_length] at this
end
end Go.Proofs.YtlelcmkbcejjkaaDoor.Two
namespace Go.Proofs.YtlelcmkbcejjkaaDoor.L
open Go.Proofs Go.Proofs.YtlelcmkbcejjkaaDoor.Two
open Go.RowKit Go.Proofs.YtlelcmkbcejjkaaDoorW.PrintWords Go.Proofs.YtlelcmkbcejjkaaDoorW.PrintLast Go.Proofs.YtlelcmkbcejjkaaDoorW.PrintMore
set_option linter.unusedVariables false
set_option linter.unusedSimpArgs false

theorem lb_rd (l : List S67) (i : Nat) (h : i < l.length) : rd_T67 l (i : Int) = l[i] := by
  simp [rd_T67, List.getD_eq_getElem?_getD, List.getElem?_eq_getElem h]
theorem lb_KM {w w1 : World} {base : Nat} {ok : Nat → Prop} {x : S67} {cs : List Value} (h : k67.K w x cs) : k67.M w1 base ok x cs := by
  obtain rfl := k67_open h
  exact k67_mkM _ _ _ _
def lb_0 (x : S67) : Value := .string x.f0
def lb_1 (x : S67) : Value := .string x.f1
theorem lb_two {w : World} {B : Nat} {ok : Nat → Prop} {v : Value} {l : List S67} (h : Kd.R k67 67 w B ok v l) :
    (v = .slice none 0 0 ∧ l = []) ∨ ∃ g cap, v = .slice (some ⟨g, 0, none⟩) l.length cap ∧ B ≤ g ∧ TwoBlk 67 lb_0 lb_1 w g cap l := by
  obtain ⟨_, inner, ho, hl, hr⟩ := h
  refine own_two ho l rfl fun j hj => ?_
  have h2 := hr j _ (List.getElem?_eq_getElem hj)
  have h3 := k67_openM h2
  have hlen : (j * 2) + 2 ≤ inner.length := by
    have : inner.length = l.length * 2 := hl
    omega
  have h4 : (inner.drop (j * 2)).take 2 = [lb_0 l[j], lb_1 l[j]] := h3
  constructor
  · have := congrArg (fun z => z[0]?) h4
    simpa [List.getElem?_take, List.getElem?_drop] using this
  · have := congrArg (fun z => z[1]?) h4
    simpa [List.getElem?_take, List.getElem?_drop] using this
theorem lb_R {w : World} {B g cap : Nat} {l : List S67} (h : TwoBlk 67 lb_0 lb_1 w g cap l) (hB : B ≤ g) :
    Kd.R k67 67 w B (fun _ => True) (.slice (some ⟨g, 0, none⟩) l.length cap) l := by
  refine ⟨fun _ _ => trivial, _, two_own h hB, ?_⟩
  have key : ∀ (l : List S67), Reps (k67.M w B (fun k => True ∧ some k ≠ (Value.slice (some ⟨g, 0, none⟩) l.length cap).ownBlock)) 2 l (l.flatMap fun x => [lb_0 x, lb_1 x]) := by
    intro l
    have gen : ∀ (ok : Nat → Prop) (l : List S67), Reps (k67.M w B ok) 2 l (l.flatMap fun x => [lb_0 x, lb_1 x]) := by
      intro ok l
      induction l with
      | nil => exact Reps.none _ _
      | cons x r ih =>
        have h1 := Reps.snoc (Reps.none (k67.M w B ok) 2) (p := x) (c := [lb_0 x, lb_1 x]) (k67_mkM w B ok x) rfl
        have h2 := Kd.reps_append h1 ih
        simpa [List.flatMap_cons] using h2
    exact gen _ l
  exact key l

/-- What is asked of a predicate that is handed over: in every world in which what lay below B lies unturned. -/
def lb_Pred (G : Nat) (cb : Array Value) (p : S67 → Bool) (B : Nat) (w : World) : Prop :=
  ∀ (W : World) (x : S67), Below B w W → B ≤ W.heap.size → Calls Tryd.prog G (#[.agg #[.string x.f0, .string x.f1]] ++ cb) W fun e w' => e = .returned (.bool (p x)) ∧ Below W.heap.size W w'

set_option maxHeartbeats 1000000 in
theorem lb_idx (G : Nat) (cb : Array Value) (p : S67 → Bool) (A : Option Addr) (c : Nat) (l : List S67) (B : Nat) (w : World) (hB : B ≤ w.heap.size) (hC : Kd.C k67 w A l.length l)
    (eg : ∀ args w, (callFunc G args).run Tryd.prog w = .ok (.enter G args) w) (hp : lb_Pred G cb p B w) :
    Calls Tryd.prog 98 #[.slice A l.length c, .func (.func G) #[] cb] w fun e w' => e = .returned (.int .i64 (idxP p l)) ∧ Below w.heap.size w w' := by
  have hn : l.length ≤ 9223372036854775807 := hC.2.1
  have HC : Aside0 (Kd.C k67 w A l.length l) := ⟨hC⟩
  have HP : Aside0 (lb_Pred G cb p B w) := ⟨hp⟩
  have HBB : Aside0 (B ≤ w.heap.size) := ⟨hB⟩
  clear hC hp hB
  go_enter Tryd.func98, Tryd.ntmps98
  go_wp2
  go_loopg [8] l.length (fun kx s8 wr => ∃ j : Nat, s8 = .int .i64 j ∧ j ≤ l.length ∧ l.length - j ≤ kx ∧ Aside0 (Below w.heap.size w wr) ∧ Aside0 (∀ i (hi : i < l.length), i < j → p l[i] = false))
  case atStart => exact ⟨0, rfl, by omega, by omega, ⟨Below.refl _ _⟩, ⟨fun i hi h => by omega⟩⟩
  case round =>
    obtain ⟨j, rfl, hj, hg, HB, I⟩ := hrel
    by_cases hlt : j < l.length
    · obtain ⟨ad, rfl, hx0, hx1⟩ := at_T67 (Kd.C_below HC.out HB.out) j (by omega) (by omega)
      rw [Int.toNat_natCast] at hx0 hx1
      have hc := HP.out wr (rd_T67 l j) (HB.out.mono HBB.out) (Nat.le_trans HBB.out HB.out.size)
      have er : Aside0 (rd_T67 l (j : Int) = l[j]) := ⟨lb_rd l j hlt⟩
      generalize rd_T67 l (j : Int) = x at hx0 hx1 hc er
      cases hb : p x <;> rw [hb] at hc <;> have HX : Aside0 (p x = _) := ⟨hb⟩ <;> clear hb
      · go_wp2_with (go_at_fn G; refine hc.mono ?_; rintro e w1 ⟨rfl, hb1⟩)
        go_roundg (l.length - (j + 1))
        case measure => omega
        case rel => exact ⟨j + 1, by go_num, by omega, by omega, ⟨below_then HB.out HB.out.size hb1⟩, ⟨fun i hi h => by
          rcases Nat.lt_or_ge i j with h' | h'
          · exact I.out i hi h'
          · obtain rfl : i = j := by omega
            rw [← er.out]; exact HX.out⟩⟩
      · go_wp2_with (go_at_fn G; refine hc.mono ?_; rintro e w1 ⟨rfl, hb1⟩)
        go_ret
        exact ⟨congrArg (fun n : Int => Ending.returned (.int .i64 n)) (idxP_hit p l j hlt (fun i hi => I.out i (by omega) hi) (by rw [← er.out]; exact HX.out)).symm, below_then HB.out HB.out.size hb1⟩
    · have E : Aside0 (idxP p l = -1) := ⟨idxP_none p l fun i hi => I.out i hi (by omega)⟩
      go_wp2
      go_ret
      exact ⟨congrArg (fun n : Int => Ending.returned (.int .i64 n)) E.out.symm, HB.out⟩

set_option maxHeartbeats 1000000 in
theorem lb_clone (A : Option Addr) (c : Nat) (l : List S67) (w : World) (hC : Kd.C k67 w A l.length l) (hb : l.length * 32 ≤ 140737488355328) :
    Calls Tryd.prog 69 #[.slice A l.length c] w fun e w' => ∃ v, e = .returned v ∧ Kd.R k67 67 w' w.heap.size (fun _ => True) v l ∧ Below w.heap.size w w' := by
  cases A with
  | none =>
    have hl : l = [] := by
      cases l with
      | nil => rfl
      | cons x r => obtain ⟨ad, e, _⟩ := hC.2.2 (by simp); cases e
    subst hl
    have heq := fun w => Lib.run_eql_slice_nil (P := Tryd.prog) w 37 67 none 0 c 0 0 Tryd.underlying37
    go_enter Tryd.func69, Tryd.ntmps69
    go_wp2
    go_ret
    exact ⟨_, rfl, Kd.R_nil _ _ _ _ _, Below.refl _ _⟩
  | some ad =>
    have HC : Aside0 (Kd.C k67 (w.alloc (.cells #[] 67)) (some ad) l.length l) := ⟨Kd.C_below hC (below_alloc (Below.refl _ _) _)⟩
    have HO : Aside0 (Kd.R k67 67 (w.alloc (.cells #[] 67)) w.heap.size (fun _ => True) (.slice (some ⟨w.heap.size, 0, none⟩) 0 0) []) :=
      ⟨fun _ _ => trivial, OwnRow.lit w w.heap.size (Reps.none _ _) (Nat.le_refl _) (by simp)⟩
    have HB : Aside0 (Below w.heap.size w (w.alloc (.cells #[] 67))) := ⟨below_alloc (Below.refl _ _) _⟩
    have HL : Aside0 ((([] : List S67).length + l.length) * 32 ≤ 140737488355328) := ⟨by simpa using hb⟩
    clear hC hb
    have heq := fun w => Lib.run_eql_slice_nil (P := Tryd.prog) w 37 67 (some ad) l.length c 0 0 Tryd.underlying37
    go_enter Tryd.func69, Tryd.ntmps69
    go_wp2_with (at_builtin; refine Kd.R_append_rows k67 (w0 := w) w.heap.size rfl _ _ 37 67 _ 32 rfl Tryd.underlying37 info67 rfl (by decide) (by decide) _ [] l (some ad) l.length c (fun _ => True) (fun _ => False) rfl rfl HO.out HC.out (fun _ _ h => lb_KM h) (fun _ h => h.elim) (fun _ _ => trivial) HB.out HB.out.size HL.out ?_; intro v1 w1 hR1 hB1 hg1 hat1; have HR1 := Aside0.mk hR1; have HB1 := Aside0.mk hB1; clear hR1 hB1 hg1 hat1)
    go_ret
    exact ⟨_, rfl, HR1.out, HB1.out⟩

set_option maxHeartbeats 2000000 in
theorem lb_del (G : Nat) (cb : Array Value) (p : S67 → Bool) (v : Value) (l : List S67) (B : Nat) (w : World) (hB : B ≤ w.heap.size) (hR : Kd.R k67 67 w B (fun _ => True) v l)
    (eg : ∀ args w, (callFunc G args).run Tryd.prog w = .ok (.enter G args) w) (hp : lb_Pred G cb p B w) :
    Calls Tryd.prog 73 #[v, .func (.func G) #[] cb] w fun e w' => ∃ v', e = .returned v' ∧ Kd.R k67 67 w' B (fun _ => True) v' (l.filter (fun x => !p x)) ∧ Below B w w' := by
  obtain ⟨A, c, rfl, hlc, hC⟩ := Kd.R_reads hR
  have hidx := lb_idx G cb p A c l B w hB hC eg hp
  have HR : Aside0 (Kd.R k67 67 w B (fun _ => True) (.slice A l.length c) l) := ⟨hR⟩
  have HP : Aside0 (lb_Pred G cb p B w) := ⟨hp⟩
  have HBB : Aside0 (B ≤ w.heap.size) := ⟨hB⟩
  have HI := Aside0.mk (idxP_cases p l)
  clear hC hp hB hR
  rcases HI.out with ⟨h1, h2⟩ | ⟨i0, h1, hi0, h3⟩
  · rw [h1] at hidx
    have H2 := Aside0.mk h2
    clear h1 h2
    go_enter Tryd.func73, Tryd.ntmps73
    go_wp2_with (go_at_call 98; refine hidx.mono ?_; rintro e w1 ⟨rfl, hb1⟩)
    go_ret
    exact ⟨_, rfl, by rw [H2.out]; exact Kd.R_below HR.out hb1, hb1.mono HBB.out⟩
  · rw [h1] at hidx
    have H3 := Aside0.mk h3
    have hmax : l.length ≤ 9223372036854775807 := (Kd.R_reads HR.out).choose_spec.choose_spec.2.2.2.1
    rcases lb_two HR.out with ⟨hv, rfl⟩ | ⟨g, cap, hv, hBg, hT⟩
    · simp at hi0
    injection hv with e1 e2 e3
    subst e1 e3
    have HT := Aside0.mk hT
    have HBg := Aside0.mk hBg
    clear h1 h3 hT hBg e2
    have hi0z : (i0 : Int) < (l.length : Int) := by omega
    have hne : ((i0 : Int) == -1) = false := by rw [beq_eq_false_iff_ne]; omega
    go_enter Tryd.func73, Tryd.ntmps73
    go_wp2_with (go_at_call 98; refine hidx.mono ?_; rintro e w1 ⟨rfl, hb1⟩; have HB1 := Aside0.mk hb1; clear hb1)
    go_loopg [5, 6] l.length (fun kx s5 s6 wr => ∃ (i j : Nat) (ys : List S67), s5 = .int .i64 i ∧ s6 = .int .i64 j ∧ l.length - j ≤ kx ∧ i < j ∧ j ≤ l.length ∧ Aside0 (Del p l ys i j) ∧ Aside0 (TwoBlk 67 lb_0 lb_1 wr g c ys) ∧ Aside0 (Below B w wr))
    case atStart => exact ⟨i0, i0 + 1, l, rfl, by go_num, by omega, by omega, by omega, ⟨Del.start hi0 H3.out⟩, ⟨HT.out.below HB1.out HT.out.lt⟩, ⟨HB1.out.mono HBB.out⟩⟩
    case round =>
      obtain ⟨i, j, ys, rfl, rfl, hg, hij, hjl, HD, HY, HB⟩ := hrel
      by_cases hlt : j < l.length
      · obtain ⟨hj1, hj2⟩ := HD.out.at_ hlt
        obtain ⟨hx0, hx1⟩ := HY.out.cell j hj1
        rw [hj2] at hx0 hx1
        have hBr : B ≤ wr.heap.size := Nat.le_of_lt (Nat.lt_of_le_of_lt HBg.out HY.out.lt)
        obtain ⟨x, hx⟩ : ∃ x, l[j] = x := ⟨_, rfl⟩
        rw [hx] at hx0 hx1
        have hc := HP.out (wr.alloc (.cells #[.string x.f0, .string x.f1] 67)) x (HB.out.alloc hBr _) (by simp; omega)
        have HX := Aside0.mk hx
        clear hj2 hx
        change wr.cell? ⟨g, j * 2, none⟩ = some (.string x.f0) at hx0
        change wr.cell? ⟨g, j * 2 + 1, none⟩ = some (.string x.f1) at hx1
        have hY1 := HY.out.below (below_alloc (Below.refl _ _) (.cells #[.string x.f0, .string x.f1] 67)) HY.out.lt
        have hgl : g < (wr.alloc (.cells #[.string x.f0, .string x.f1] 67)).heap.size := hY1.lt
        have HY1 := Aside0.mk hY1
        have HGL := Aside0.mk hgl
        have HBR := Aside0.mk hBr
        clear hY1 hgl hBr
        cases hb : p x <;> rw [hb] at hc <;> have HX2 : Aside0 (p x = _) := ⟨hb⟩ <;> clear hb
        · have hiy : i < ys.length := by omega
          go_wp2_with (go_at_fn G; refine hc.mono ?_; rintro e w2 ⟨rfl, hb2⟩; have HB2 := Aside0.mk hb2; have HY2 := Aside0.mk (HY1.out.below hb2 HGL.out); have hq0 : w2.cell? ⟨wr.heap.size, 0, none⟩ = some (.string x.f0) := (hb2.cell (p := ⟨wr.heap.size, 0, none⟩) (by simp)).trans (by simp); have hq1 : w2.cell? ⟨wr.heap.size, 1, none⟩ = some (.string x.f1) := (hb2.cell (p := ⟨wr.heap.size, 1, none⟩) (by simp)).trans (by simp); have hr0 := (HY2.out.cell i hiy).1; have hr1 := (HY2.out.cell i hiy).2; have hf0 := HY2.out.frozen (i * 2); have hf1 := HY2.out.frozen (i * 2 + 1); clear hb2)
          go_roundg (l.length - (j + 1))
          case measure => omega
          case rel => exact ⟨i + 1, j + 1, ys.set i x, by go_num, by go_num, by omega, by omega, by omega, ⟨by have := HD.out.keep_ hij hlt (by rw [HX.out]; exact HX2.out); rw [HX.out] at this; exact this⟩, ⟨HY2.out.set_ i hiy x⟩, ⟨below_set2 (below_then (HB.out.alloc HBR.out _) (by simp; have := HBR.out; omega) HB2.out) HBg.out⟩⟩
        · go_wp2_with (go_at_fn G; refine hc.mono ?_; rintro e w2 ⟨rfl, hb2⟩; have HB2 := Aside0.mk hb2; clear hb2)
          go_roundg (l.length - (j + 1))
          case measure => omega
          case rel => exact ⟨i, j + 1, ys, rfl, by go_num, by omega, by omega, by omega, ⟨HD.out.drop_ hlt (by rw [HX.out]; exact HX2.out)⟩, ⟨HY1.out.below HB2.out HGL.out⟩, ⟨below_then (HB.out.alloc HBR.out _) (by simp; have := HBR.out; omega) HB2.out⟩⟩
      · have ej : j = l.length := by omega
        have HF := Aside0.mk (HD.out.done ej)
        have HLL := Aside0.mk HD.out.len
        have HC0 : Aside0 (i < ys.length) := ⟨by have := HD.out.len; omega⟩
        have hii : i < l.length := by omega
        obtain ⟨vs, hcl⟩ : ∃ vs, (Builtin.clear_ #[37] 0 #[.slice (some ⟨g, i * 2, none⟩) (l.length - i) (c - i)]).run Tryd.prog wr = .ok (.tuple #[]) (wr.setCells g (i * 2) vs) := by
          have := run_clear_two HY.out 37 0 (.string ⟨#[]⟩) (.string ⟨#[]⟩) Tryd.underlying37 (fun _ => by kernel_rfl) rfl rfl i HC0.out (c - i)
          rwa [HD.out.len] at this
        clear ej
        go_wp2_with (simp only [hcl])
        go_ret
        have hY := HY.out.clear_ i (by have := HC0.out; omega) vs
        rw [HF.out] at hY
        have hlen : (l.filter (fun x => !p x)).length = i := by rw [← HF.out, List.length_take]; have := HC0.out; omega
        have hR := lb_R hY HBg.out
        rw [hlen] at hR
        exact ⟨_, rfl, hR, below_setCells HBg.out _ _ HB.out⟩
end Go.Proofs.YtlelcmkbcejjkaaDoor.L
namespace Go.Proofs.YtlelcmkbcejjkaaDoor.Cmp
open Go.Proofs Go.RowKit Go.Sort Go.Proofs.YtlelcmkbcejjkaaDoorW.PrintWords
set_option linter.unusedVariables false
set_option linter.unusedSimpArgs false

/-- How two texts compare: -1, 0, 1. -/
def cmpS (a b : ByteArray) : Int := Lib.compareBytes a.data.toList b.data.toList

set_option maxRecDepth 100000 in
theorem cmpstr (a b : ByteArray) (w : World) :
    Calls Tryd.prog 131 #[.string a, .string b] w fun e w' => e = .returned (.int .i64 (cmpS a b)) ∧ w = w' := by
  go_enter Tryd.func131, Tryd.ntmps131
  go_wp2
  rw [run_callFunc_extern Tryd.func140 (by kernel_rfl) (by kernel_rfl) (by kernel_rfl) (e := Extern.BytealgCompare.compare) (by kernel_rfl), Lib.run_compareString]
  simp only [Result.andThen]
  rw [Oper.upon_value]
  go_wp2
  go_ret
  exact ⟨rfl, rfl⟩
theorem compare_calls (a b : ByteArray) (w : World) :
    Calls Tryd.prog 119 #[.string a, .string b] w fun e w' => e = .returned (.int .i64 (cmpS a b)) ∧ w = w' := by
  go_enter Tryd.func119, Tryd.ntmps119
  go_wp2_with (go_at_call 131; refine (cmpstr _ _ _).mono ?_; rintro e w' ⟨rfl, rfl⟩)
  go_ret
  exact ⟨rfl, rfl⟩

def or2 (a b : Int) : Int := if a = 0 then b else a
theorem or_calls (b : Nat) (x y : Int) (w : World) (h0 : w.cell? ⟨b, 0, none⟩ = some (.int .i64 x)) (h1 : w.cell? ⟨b, 1, none⟩ = some (.int .i64 y)) :
    Calls Tryd.prog 118 #[.slice (some ⟨b, 0, none⟩) 2 2] w fun e w' => e = .returned (.int .i64 (or2 x y)) ∧ ∃ q, w' = w.drewN q := by
  by_cases hx : x = 0
  · subst hx
    by_cases hy : y = 0
    · subst hy
      go_enter Tryd.func118, Tryd.ntmps118
      go_wp2
      refine wp_loop_rounds 3 ?_
      rw [rounds_succ]
      go_wp2
      rw [rounds_succ]
      go_wp2
      rw [rounds_succ]
      go_wp2
      go_ret
      exact ⟨rfl, 0, rfl⟩
    · have e : or2 0 y = y := by simp [or2]
      have hy' : (y != 0) = true := by simpa using hy
      rw [e]
      clear hy e
      go_enter Tryd.func118, Tryd.ntmps118
      go_wp2
      refine wp_loop_rounds 2 ?_
      rw [rounds_succ]
      go_wp2
      rw [rounds_succ]
      go_wp2
      go_ret
      exact ⟨rfl, 0, rfl⟩
  · have e : or2 x y = x := by simp [or2, hx]
    have hx' : (x != 0) = true := by simpa using hx
    rw [e]
    clear hx e
    go_enter Tryd.func118, Tryd.ntmps118
    go_wp2
    refine wp_loop_rounds 1 ?_
    rw [rounds_succ]
    go_wp2
    go_ret
    exact ⟨rfl, 0, rfl⟩

/-- Draws and new blocks. -/
def Gr (w w' : World) : Prop := ∃ q os, w' = grow (w.drewN q) os
theorem Gr.refl (w : World) : Gr w w := ⟨0, #[], by rw [grow_empty]; rfl⟩
theorem Gr.alloc {w w1 : World} (h : Gr w w1) (o : Obj) : Gr w (w1.alloc o) := by
  obtain ⟨q, os, rfl⟩ := h
  exact ⟨q, os ++ #[o], by rw [alloc_eq_grow, grow_grow]⟩
theorem Gr.drewN {w w1 : World} (h : Gr w w1) (n : Nat) : Gr w (w1.drewN n) := by
  obtain ⟨q, os, rfl⟩ := h
  exact ⟨q + n, os, by show _ = grow (w.drewN (q + n)) os; rw [← World.drewN_drewN]; rfl⟩
theorem Gr.drew {w w1 : World} (h : Gr w w1) : Gr w w1.drew := h.drewN 1
theorem Gr.trans {w w1 w2 : World} (h : Gr w w1) (k : Gr w1 w2) : Gr w w2 := by
  obtain ⟨q, os, rfl⟩ := h
  obtain ⟨q', os', rfl⟩ := k
  refine ⟨q + q', os ++ os', ?_⟩
  rw [← grow_grow, ← World.drewN_drewN]
  rfl
theorem Gr.below {w w1 : World} (h : Gr w w1) : RowKit.Below w.heap.size w w1 := by
  obtain ⟨q, os, rfl⟩ := h
  exact ⟨rfl, rfl, rfl, by show w.heap.size ≤ (w.heap ++ os).size; rw [Array.size_append]; omega, fun k hk => Array.getElem?_append_left hk⟩

/-- By the name, then by the value. -/
def ordS (x0 x1 y0 y1 : ByteArray) : Int := or2 (cmpS x0 y0) (cmpS x1 y1)
set_option maxHeartbeats 1000000 in
set_option maxRecDepth 100000 in
theorem order_calls (x0 x1 y0 y1 : ByteArray) (w : World) :
    Calls Tryd.prog 96 #[.agg #[.string x0, .string x1], .agg #[.string y0, .string y1]] w fun e w' => e = .returned (.int .i64 (ordS x0 x1 y0 y1)) ∧ Gr w w' := by
  go_enter Tryd.func96, Tryd.ntmps96
  go_wp2
  obtain ⟨W, hW⟩ : ∃ W, W = (w.alloc (.cells #[.string x0, .string x1] 172)).alloc (.cells #[.string y0, .string y1] 172) := ⟨_, rfl⟩
  have c0 : W.cell? ⟨w.heap.size, 0, none⟩ = some (.string x0) := by subst hW; simp
  have c1 : W.cell? ⟨w.heap.size, 1, none⟩ = some (.string x1) := by subst hW; simp
  have c2 : W.cell? ⟨w.heap.size + 1, 0, none⟩ = some (.string y0) := by subst hW; simp
  have c3 : W.cell? ⟨w.heap.size + 1, 1, none⟩ = some (.string y1) := by subst hW; simp
  rw [← hW]
  have HW := Aside0.mk hW
  clear hW
  refine wp_region_still_tail 10 (by kernel_rfl) (by kernel_rfl) ?_
  simp only [List.take_succ_cons, List.take_zero, List.drop_succ_cons, List.drop_zero]
  still_step
  still_step
  still_step
  still_step
  still_call ((compare_calls x0 y0 W.drew).mono fun _ _ h => ⟨h.1, h.2.symm⟩)
  still_step
  still_step
  still_step
  still_step
  still_call ((compare_calls x1 y1 W.drew).mono fun _ _ h => ⟨h.1, h.2.symm⟩)
  refine wpStill_nil ?_
  change wpList _ _ _ _ _ W.drew
  have HG : Aside0 (Gr w W.drew) := ⟨by rw [HW.out]; exact (((Gr.refl w).alloc _).alloc _).drew⟩
  generalize W.drew = W2 at HG
  clear c0 c1 c2 c3 HW
  have HO := or_calls W2.heap.size (cmpS x0 y0) (cmpS x1 y1) (W2.alloc (.cells #[.int .i64 (cmpS x0 y0), .int .i64 (cmpS x1 y1)] 3)) (by simp) (by simp)
  go_wp2_with (go_at_call 118; refine HO.mono ?_; rintro e w' ⟨rfl, nq, rfl⟩)
  go_ret
  exact ⟨rfl, (HG.out.alloc _).drewN _⟩

theorem by_calls (x0 x1 y0 y1 : ByteArray) (w : World) :
    Calls Tryd.prog 71 #[.agg #[.string x0, .string x1], .agg #[.string y0, .string y1]] w fun e w' => e = .returned (.int .i64 (ordS x0 x1 y0 y1)) ∧ Gr w w' := by
  go_enter Tryd.func71, Tryd.ntmps71
  go_wp2_with (go_at_call 96; refine (order_calls _ _ _ _ _).mono ?_; rintro e w' ⟨rfl, hg⟩; have HG := Aside0.mk hg; clear hg)
  go_ret
  exact ⟨rfl, (((Gr.refl w).alloc _).alloc _).trans HG.out⟩
end Go.Proofs.YtlelcmkbcejjkaaDoor.Cmp
namespace Go.Proofs.YtlelcmkbcejjkaaDoor.Lab
open Go.Proofs Go.Sort Go.Proofs.YtlelcmkbcejjkaaDoor.Cmp
set_option linter.unusedVariables false
set_option linter.unusedSimpArgs false

theorem cb_rng (a : List UInt8) : ∀ b, Lib.compareBytes a b = -1 ∨ Lib.compareBytes a b = 0 ∨ Lib.compareBytes a b = 1 := by
  induction a with
  | nil => intro b; cases b <;> simp [Lib.compareBytes]
  | cons x a ih =>
    intro b
    cases b with
    | nil => simp [Lib.compareBytes]
    | cons y b =>
      simp only [Lib.compareBytes]
      split
      · exact Or.inl rfl
      · split
        · exact Or.inr (Or.inr rfl)
        · exact ih b
theorem cb_flip (a : List UInt8) : ∀ b, Lib.compareBytes b a = - Lib.compareBytes a b := by
  induction a with
  | nil => intro b; cases b <;> simp [Lib.compareBytes]
  | cons x a ih =>
    intro b
    cases b with
    | nil => simp [Lib.compareBytes]
    | cons y b =>
      simp only [Lib.compareBytes, UInt8.lt_iff_toNat_lt]
      by_cases h1 : x.toNat < y.toNat
      · rw [if_neg (show ¬ y.toNat < x.toNat by omega), if_pos h1, if_pos h1]; rfl
      · by_cases h2 : y.toNat < x.toNat
        · rw [if_pos h2, if_neg h1, if_pos h2]
        · rw [if_neg h2, if_neg h1, if_neg h1, if_neg h2]; exact ih b
theorem cb_eq (a : List UInt8) : ∀ b, Lib.compareBytes a b = 0 ↔ a = b := by
  induction a with
  | nil => intro b; cases b <;> simp [Lib.compareBytes]
  | cons x a ih =>
    intro b
    cases b with
    | nil => simp [Lib.compareBytes]
    | cons y b =>
      simp only [Lib.compareBytes, UInt8.lt_iff_toNat_lt, List.cons.injEq]
      by_cases h1 : x.toNat < y.toNat
      · rw [if_pos h1]
        exact ⟨fun h => (by cases h), fun h => (by rw [h.1] at h1; omega)⟩
      · rw [if_neg h1]
        by_cases h2 : y.toNat < x.toNat
        · rw [if_pos h2]
          exact ⟨fun h => (by cases h), fun h => (by rw [h.1] at h2; omega)⟩
        · rw [if_neg h2, ih b]
          have : x = y := UInt8.toNat_inj.1 (by omega)
          exact ⟨fun h => ⟨this, h⟩, fun h => h.2⟩
theorem cb_trans (a : List UInt8) : ∀ b c, Lib.compareBytes a b < 0 → Lib.compareBytes b c < 0 → Lib.compareBytes a c < 0 := by
  induction a with
  | nil =>
    intro b c h1 h2
    cases b with
    | nil => simp [Lib.compareBytes] at h1
    | cons y b =>
      cases c with
      | nil => simp [Lib.compareBytes] at h2
      | cons z c => simp [Lib.compareBytes]
  | cons x a ih =>
    intro b c h1 h2
    cases b with
    | nil => simp [Lib.compareBytes] at h1
    | cons y b =>
      cases c with
      | nil => simp [Lib.compareBytes] at h2
      | cons z c =>
        simp only [Lib.compareBytes, UInt8.lt_iff_toNat_lt] at h1 h2 ⊢
        by_cases a1 : x.toNat < y.toNat
        · by_cases b1 : y.toNat < z.toNat
          · rw [if_pos (by omega)]; decide
          · by_cases b2 : z.toNat < y.toNat
            · rw [if_neg b1, if_pos b2] at h2; omega
            · rw [if_pos (by omega)]; decide
        · rw [if_neg a1] at h1
          by_cases a2 : y.toNat < x.toNat
          · rw [if_pos a2] at h1; omega
          · rw [if_neg a2] at h1
            by_cases b1 : y.toNat < z.toNat
            · rw [if_pos (by omega)]; decide
            · rw [if_neg b1] at h2
              by_cases b2 : z.toNat < y.toNat
              · rw [if_pos b2] at h2; omega
              · rw [if_neg b2] at h2
                rw [if_neg (by omega), if_neg (by omega)]
                exact ih b c h1 h2

/-- An order that tells -1, 0, 1, and parts whatever is not the same. -/
structure Ord3 {α : Type} (f : α → α → Int) : Prop where
  rng : ∀ x y, f x y = -1 ∨ f x y = 0 ∨ f x y = 1
  flip : ∀ x y, f y x = - f x y
  eq : ∀ x y, f x y = 0 ↔ x = y
  trans : ∀ x y z, f x y < 0 → f y z < 0 → f x z < 0
section
variable {α β : Type} {f : α → α → Int} {g : β → β → Int}
theorem Ord3.le_trans (h : Ord3 f) {x y z : α} (h1 : f x y ≤ 0) (h2 : f y z ≤ 0) : f x z ≤ 0 := by
  rcases h.rng x y with a | a | a
  · rcases h.rng y z with b | b | b
    · exact Int.le_of_lt (h.trans x y z (by omega) (by omega))
    · rw [← (h.eq y z).1 b]; omega
    · omega
  · rw [(h.eq x y).1 a]; omega
  · omega
theorem Ord3.lt_of_lt_of_le (h : Ord3 f) {x y z : α} (h1 : f x y < 0) (h2 : f y z ≤ 0) : f x z < 0 := by
  rcases h.rng y z with b | b | b
  · exact h.trans x y z h1 (by omega)
  · rw [← (h.eq y z).1 b]; exact h1
  · omega
theorem Ord3.lt_of_le_of_lt (h : Ord3 f) {x y z : α} (h1 : f x y ≤ 0) (h2 : f y z < 0) : f x z < 0 := by
  rcases h.rng x y with b | b | b
  · exact h.trans x y z (by omega) h2
  · rw [(h.eq x y).1 b]; exact h2
  · omega
theorem Ord3.refl (h : Ord3 f) (x : α) : f x x = 0 := (h.eq x x).2 rfl
theorem Ord3.bytes : Ord3 Lib.compareBytes := ⟨cb_rng, fun a b => cb_flip a b, fun a b => cb_eq a b, cb_trans⟩
theorem Ord3.via (h : Ord3 f) (m : β → α) (hm : ∀ x y, m x = m y → x = y) : Ord3 (fun x y => f (m x) (m y)) :=
  ⟨fun x y => h.rng _ _, fun x y => h.flip _ _, fun x y => ⟨fun e => hm x y ((h.eq _ _).1 e), fun e => by rw [e]; exact h.refl _⟩, fun x y z => h.trans _ _ _⟩
theorem Ord3.str : Ord3 cmpS := Ord3.bytes.via (fun a : ByteArray => a.data.toList) fun x y e => ByteArray.ext (Array.toList_inj.1 e)
theorem Ord3.pair (h : Ord3 f) (k : Ord3 g) : Ord3 (fun x y : α × β => or2 (f x.1 y.1) (g x.2 y.2)) := by
  refine ⟨fun x y => ?_, fun x y => ?_, fun x y => ?_, fun x y z h1 h2 => ?_⟩
  · unfold or2; split
    · exact k.rng _ _
    · exact h.rng _ _
  · unfold or2
    rw [h.flip x.1 y.1, k.flip x.2 y.2]
    by_cases e : f x.1 y.1 = 0
    · rw [if_pos e, if_pos (by omega)]
    · rw [if_neg e, if_neg (by omega)]
  · unfold or2
    by_cases e : f x.1 y.1 = 0
    · rw [if_pos e, k.eq]
      have := (h.eq _ _).1 e
      exact ⟨fun e2 => Prod.ext this e2, fun e2 => by rw [e2]⟩
    · rw [if_neg e]
      exact ⟨fun e2 => absurd e2 e, fun e2 => absurd (by rw [e2]; exact h.refl _) e⟩
  · unfold or2 at h1 h2 ⊢
    by_cases e1 : f x.1 y.1 = 0
    · rw [if_pos e1] at h1
      have q1 := (h.eq _ _).1 e1
      by_cases e2 : f y.1 z.1 = 0
      · rw [if_pos e2] at h2
        rw [q1, if_pos e2]
        exact k.trans _ _ _ h1 h2
      · rw [if_neg e2] at h2
        rw [q1, if_neg e2]; exact h2
    · rw [if_neg e1] at h1
      by_cases e2 : f y.1 z.1 = 0
      · rw [← (h.eq _ _).1 e2, if_neg e1]; exact h1
      · rw [if_neg e2] at h2
        have := h.trans _ _ _ h1 h2
        rw [if_neg (by omega)]; exact this
/-- Lists, one by one, the shorter one first. -/
def cmpLs (f : α → α → Int) : List α → List α → Int
  | [], [] => 0
  | [], _ :: _ => -1
  | _ :: _, [] => 1
  | x :: a, y :: b => if f x y = 0 then cmpLs f a b else f x y
theorem Ord3.list (h : Ord3 f) : Ord3 (cmpLs f) := by
  refine ⟨fun a => ?_, fun a => ?_, fun a => ?_, fun a => ?_⟩
  · induction a with
    | nil => intro b; cases b <;> simp [cmpLs]
    | cons x a ih =>
      intro b
      cases b with
      | nil => simp [cmpLs]
      | cons y b =>
        simp only [cmpLs]; split
        · exact ih b
        · exact h.rng _ _
  · induction a with
    | nil => intro b; cases b <;> simp [cmpLs]
    | cons x a ih =>
      intro b
      cases b with
      | nil => simp [cmpLs]
      | cons y b =>
        simp only [cmpLs]
        rw [h.flip x y]
        by_cases e : f x y = 0
        · rw [if_pos e, if_pos (by omega)]; exact ih b
        · rw [if_neg e, if_neg (by omega)]
  · induction a with
    | nil => intro b; cases b <;> simp [cmpLs]
    | cons x a ih =>
      intro b
      cases b with
      | nil => simp [cmpLs]
      | cons y b =>
        simp only [cmpLs, List.cons.injEq]
        by_cases e : f x y = 0
        · rw [if_pos e, ih b]
          have := (h.eq _ _).1 e
          exact ⟨fun e2 => ⟨this, e2⟩, fun e2 => e2.2⟩
        · rw [if_neg e]
          exact ⟨fun e2 => absurd e2 e, fun e2 => absurd (by rw [e2.1]; exact h.refl _) e⟩
  · induction a with
    | nil =>
      intro b c h1 h2
      cases b with
      | nil => simp [cmpLs] at h1
      | cons y b =>
        cases c with
        | nil => simp only [cmpLs] at h2; omega
        | cons z c => simp [cmpLs]
    | cons x a ih =>
      intro b c h1 h2
      cases b with
      | nil => simp only [cmpLs] at h1; omega
      | cons y b =>
        cases c with
        | nil => simp only [cmpLs] at h2; omega
        | cons z c =>
          simp only [cmpLs] at h1 h2 ⊢
          by_cases e1 : f x y = 0
          · rw [if_pos e1] at h1
            have q1 := (h.eq _ _).1 e1
            by_cases e2 : f y z = 0
            · rw [if_pos e2] at h2
              rw [q1, if_pos e2]
              exact ih b c h1 h2
            · rw [if_neg e2] at h2
              rw [q1, if_neg e2]; exact h2
          · rw [if_neg e1] at h1
            by_cases e2 : f y z = 0
            · rw [← (h.eq _ _).1 e2, if_neg e1]; exact h1
            · rw [if_neg e2] at h2
              have := h.trans _ _ _ h1 h2
              rw [if_neg (by omega)]; exact this
theorem Ord3.swo (h : Ord3 f) : SWO (ltOf f) := by
  refine ⟨fun x => ?_, fun x y z h1 h2 => ?_, fun x y z h1 h2 => ?_⟩ <;> simp only [ltOf, decide_eq_true_eq, decide_eq_false_iff_not] at *
  · rw [h.refl]; decide
  · exact h.trans x y z h1 h2
  · have a := h.flip x y
    have b := h.flip y z
    have c := h.flip x z
    have := h.le_trans (x := z) (y := y) (z := x) (by omega) (by omega)
    omega
theorem Ord3.tot (h : Ord3 f) (x y : α) (h1 : ltOf f x y = false) (h2 : ltOf f y x = false) : x = y := by
  simp only [ltOf, decide_eq_false_iff_not] at h1 h2
  have a := h.flip x y
  exact (h.eq x y).1 (by omega)
/-- The sort. -/
def sortF (f : α → α → Int) (l : List α) : List α := l.mergeSort fun x y => !ltOf f y x
theorem sortF_perm (l : List α) : (sortF f l).Perm l := List.mergeSort_perm _ _
theorem sortF_sorted (h : Ord3 f) (l : List α) : (sortF f l).Pairwise (fun x y => f x y ≤ 0) := by
  have := List.pairwise_mergeSort (le := fun x y => !ltOf f y x) (fun a b c h1 h2 => by
    simp only [Bool.not_eq_true', ltOf, decide_eq_false_iff_not] at *
    have q1 := h.flip a b
    have q2 := h.flip b c
    have q3 := h.flip a c
    have := h.le_trans (x := a) (y := b) (z := c) (by omega) (by omega)
    omega) (fun a b => by
    simp only [Bool.or_eq_true, Bool.not_eq_true', ltOf, decide_eq_false_iff_not]
    have q1 := h.flip a b
    omega) l
  refine this.imp fun {a b} h1 => ?_
  simp only [Bool.not_eq_true', ltOf, decide_eq_false_iff_not] at h1
  have q1 := h.flip a b
  omega
/-- Two lists in order with the same elements are one. -/
theorem Ord3.one (h : Ord3 f) {a b : List α} (ha : a.Pairwise (fun x y => f x y ≤ 0)) (hb : b.Pairwise (fun x y => f x y ≤ 0)) (hp : a.Perm b) : a = b :=
  List.Perm.eq_of_pairwise (fun x y _ _ h1 h2 => by have := h.flip x y; exact (h.eq x y).1 (by omega)) ha hb hp
end
end Go.Proofs.YtlelcmkbcejjkaaDoor.Lab
namespace Go.Proofs.YtlelcmkbcejjkaaDoor.Lab
open Go.Proofs Go.Sort Go.Proofs.YtlelcmkbcejjkaaDoor.Cmp Go.Proofs.YtlelcmkbcejjkaaDoor.L
set_option linter.unusedVariables false
set_option linter.unusedSimpArgs false
abbrev Lb := S67
def ordL (x y : Lb) : Int := ordS x.f0 x.f1 y.f0 y.f1
theorem ord_lb : Ord3 ordL := (Ord3.str.pair Ord3.str).via (fun x : Lb => (x.f0, x.f1)) fun x y e => by
  cases x; cases y; simp only [Prod.mk.injEq] at e; rw [e.1, e.2]
theorem ord_name {x y : Lb} (h : ordL x y ≤ 0) : cmpS x.f0 y.f0 ≤ 0 := by
  unfold ordL ordS or2 at h
  split at h
  · omega
  · exact h
theorem name_ord {x y : Lb} (h : cmpS x.f0 y.f0 < 0) : ordL x y < 0 := by
  unfold ordL ordS or2
  rw [if_neg (by omega)]; exact h
def full (x : Lb) : Bool := decide (x.f1 ≠ ByteArray.empty)
/-- Names in order, each once. -/
def SN (l : List Lb) : Prop := l.Pairwise (fun x y => cmpS x.f0 y.f0 < 0)
section
variable (may : Lb → Bool)
def okFrom : Option ByteArray → List Lb → Bool
  | _, [] => true
  | p, x :: r => may x && decide (p ≠ some x.f0) && okFrom (some x.f0) r
def rightFrom : Option ByteArray → List Lb → Bool
  | _, [] => true
  | p, x :: r => may x && full x && (match p with | none => true | some y => decide (cmpS y x.f0 < 0)) && rightFrom (some x.f0) r
def rightB (l : List Lb) : Bool := rightFrom may none l && decide (l.length ≤ 16)
def mkL (l : List Lb) : List Lb × Option Int :=
  if okFrom may none (sortF ordL l) = true then (if rightB may ((sortF ordL l).filter full) = true then ((sortF ordL l).filter full, none) else ([], some 1)) else ([], some 1)
/-- Labels that may be, no name twice. -/
def Good (l : List Lb) : Prop := (∀ y ∈ l, may y = true) ∧ l.Pairwise (fun x y => x.f0 ≠ y.f0)
variable {may}
theorem okFrom_spec (l : List Lb) : ∀ a, l.Pairwise (fun x y => ordL x y ≤ 0) → (∀ y ∈ l, cmpS a y.f0 ≤ 0) → okFrom may (some a) l = true → (∀ y ∈ l, cmpS a y.f0 < 0) ∧ SN l ∧ ∀ y ∈ l, may y = true := by
  induction l with
  | nil => intro a _ _ _; exact ⟨by simp, List.Pairwise.nil, by simp⟩
  | cons x r ih =>
    intro a hs ha h
    simp only [okFrom, Bool.and_eq_true, decide_eq_true_eq] at h
    obtain ⟨⟨h1, h2⟩, h3⟩ := h
    obtain ⟨hx, hr⟩ := List.pairwise_cons.1 hs
    obtain ⟨i1, i2, i3⟩ := ih x.f0 hr (fun y hy => ord_name (hx y hy)) h3
    have hax : cmpS a x.f0 < 0 := by
      have h4 := ha x List.mem_cons_self
      have h5 : cmpS a x.f0 ≠ 0 := fun e => h2 (by rw [(Ord3.str.eq _ _).1 e])
      omega
    refine ⟨fun y hy => ?_, List.pairwise_cons.2 ⟨i1, i2⟩, fun y hy => ?_⟩
    · rcases List.mem_cons.1 hy with rfl | hy
      · exact hax
      · exact Ord3.str.trans _ _ _ hax (i1 y hy)
    · rcases List.mem_cons.1 hy with rfl | hy
      · exact h1
      · exact i3 y hy
theorem okFrom_yes (l : List Lb) : ∀ p, SN l → (∀ y ∈ l, may y = true) → (∀ y ∈ l, p ≠ some y.f0) → okFrom may p l = true := by
  induction l with
  | nil => intro p _ _ _; rfl
  | cons x r ih =>
    intro p hs hm hp
    obtain ⟨hx, hr⟩ := List.pairwise_cons.1 hs
    simp only [okFrom, Bool.and_eq_true, decide_eq_true_eq]
    refine ⟨⟨hm x List.mem_cons_self, hp x List.mem_cons_self⟩, ih _ hr (fun y hy => hm y (List.mem_cons_of_mem _ hy)) fun y hy e => ?_⟩
    have := hx y hy
    rw [Option.some.inj e, Ord3.str.refl] at this
    omega
theorem okFrom_iff (l : List Lb) (hs : l.Pairwise (fun x y => ordL x y ≤ 0)) : okFrom may none l = true ↔ SN l ∧ ∀ y ∈ l, may y = true := by
  constructor
  · intro h
    cases l with
    | nil => exact ⟨List.Pairwise.nil, by simp⟩
    | cons x r =>
      simp only [okFrom, Bool.and_eq_true, decide_eq_true_eq] at h
      obtain ⟨hx, hr⟩ := List.pairwise_cons.1 hs
      obtain ⟨i1, i2, i3⟩ := okFrom_spec r x.f0 hr (fun y hy => ord_name (hx y hy)) h.2
      refine ⟨List.pairwise_cons.2 ⟨i1, i2⟩, fun y hy => ?_⟩
      rcases List.mem_cons.1 hy with rfl | hy
      · exact h.1.1
      · exact i3 y hy
  · intro h
    exact okFrom_yes l none h.1 h.2 fun y _ e => by cases e
theorem rightFrom_iff (l : List Lb) : ∀ a, rightFrom may (some a) l = true ↔ (∀ y ∈ l, cmpS a y.f0 < 0) ∧ SN l ∧ ∀ y ∈ l, may y = true ∧ full y = true := by
  induction l with
  | nil => intro a; exact ⟨fun _ => ⟨by simp, List.Pairwise.nil, by simp⟩, fun _ => rfl⟩
  | cons x r ih =>
    intro a
    simp only [rightFrom, Bool.and_eq_true, decide_eq_true_eq]
    rw [ih x.f0]
    constructor
    · rintro ⟨⟨⟨h1, h2⟩, h3⟩, h4, h5, h6⟩
      refine ⟨fun y hy => ?_, List.pairwise_cons.2 ⟨h4, h5⟩, fun y hy => ?_⟩
      · rcases List.mem_cons.1 hy with rfl | hy
        · exact h3
        · exact Ord3.str.trans _ _ _ h3 (h4 y hy)
      · rcases List.mem_cons.1 hy with rfl | hy
        · exact ⟨h1, h2⟩
        · exact h6 y hy
    · rintro ⟨h1, h2, h3⟩
      obtain ⟨hx, hr⟩ := List.pairwise_cons.1 h2
      have hm := h3 x List.mem_cons_self
      exact ⟨⟨⟨hm.1, hm.2⟩, h1 x List.mem_cons_self⟩, hx, hr, fun y hy => h3 y (List.mem_cons_of_mem _ hy)⟩
theorem rightB_iff (l : List Lb) : rightB may l = true ↔ SN l ∧ (∀ y ∈ l, may y = true ∧ full y = true) ∧ l.length ≤ 16 := by
  unfold rightB
  rw [Bool.and_eq_true, decide_eq_true_eq]
  cases l with
  | nil => exact ⟨fun _ => ⟨List.Pairwise.nil, by simp, by simp⟩, fun _ => ⟨rfl, by simp⟩⟩
  | cons x r =>
    simp only [rightFrom, Bool.and_eq_true, and_true]
    rw [rightFrom_iff]
    constructor
    · rintro ⟨⟨⟨h1, h2⟩, h4, h5, h6⟩, h7⟩
      refine ⟨List.pairwise_cons.2 ⟨h4, h5⟩, fun y hy => ?_, h7⟩
      rcases List.mem_cons.1 hy with rfl | hy
      · exact ⟨h1, h2⟩
      · exact h6 y hy
    · rintro ⟨h1, h2, h3⟩
      obtain ⟨hx, hr⟩ := List.pairwise_cons.1 h1
      have hm := h2 x List.mem_cons_self
      exact ⟨⟨⟨hm.1, hm.2⟩, hx, hr, fun y hy => h2 y (List.mem_cons_of_mem _ hy)⟩, h3⟩
theorem Good.perm {a b : List Lb} (p : a.Perm b) (h : Good may a) : Good may b :=
  ⟨fun y hy => h.1 y (p.symm.subset hy), h.2.perm p fun hxy => hxy.symm⟩
theorem SN.le {l : List Lb} (h : SN l) : l.Pairwise (fun x y => ordL x y ≤ 0) := List.Pairwise.imp (fun h1 => Int.le_of_lt (name_ord h1)) h
theorem SN.ne {l : List Lb} (h : SN l) : l.Pairwise (fun x y => x.f0 ≠ y.f0) := List.Pairwise.imp (fun {a b} h1 e => by rw [e, Ord3.str.refl] at h1; omega) h
theorem sn_of {l : List Lb} (h : l.Pairwise (fun x y => ordL x y ≤ 0)) (k : l.Pairwise (fun x y => x.f0 ≠ y.f0)) : SN l :=
  (h.and k).imp fun {a b} h1 => by
    have h2 := ord_name h1.1
    have h3 : cmpS a.f0 b.f0 ≠ 0 := fun e => h1.2 ((Ord3.str.eq _ _).1 e)
    omega
theorem sort_ok (l : List Lb) : okFrom may none (sortF ordL l) = true ↔ Good may l := by
  have hs := sortF_sorted ord_lb l
  rw [okFrom_iff _ hs]
  constructor
  · intro h
    exact Good.perm (sortF_perm l) ⟨h.2, h.1.ne⟩
  · intro h
    have h2 := Good.perm (sortF_perm (f := ordL) l).symm h
    exact ⟨sn_of hs h2.2, h2.1⟩
theorem mk_yes {l o : List Lb} (hg : Good may l) (hp : o.Perm (l.filter full)) (hs : SN o) (h16 : o.length ≤ 16) : mkL may l = (o, none) := by
  have h1 := (sort_ok l).2 hg
  have hsn := ((okFrom_iff _ (sortF_sorted ord_lb l)).1 h1).1
  have e : (sortF ordL l).filter full = o := by
    refine ord_lb.one ?_ hs.le (((sortF_perm l).filter full).trans hp.symm)
    exact (SN.le hsn).filter _
  unfold mkL
  rw [if_pos h1, e, if_pos ((rightB_iff o).2 ⟨hs, fun y hy => ?_, h16⟩)]
  have hy2 := hp.subset hy
  rw [List.mem_filter] at hy2
  exact ⟨hg.1 y hy2.1, hy2.2⟩
theorem mk_no {l : List Lb} (h : ¬ Good may l ∨ 16 < (l.filter full).length) : mkL may l = ([], some 1) := by
  unfold mkL
  by_cases h1 : okFrom may none (sortF ordL l) = true
  · rw [if_pos h1]
    have hl : ((sortF ordL l).filter full).length = (l.filter full).length := ((sortF_perm l).filter full).length_eq
    rw [if_neg]
    intro h2
    have h3 := ((rightB_iff _).1 h2).2.2
    rcases h with h | h
    · exact h ((sort_ok l).1 h1)
    · omega
  · rw [if_neg h1]
/-- What Make comes to. -/
theorem mk_cases (l : List Lb) : (∃ o, mkL may l = (o, none) ∧ Good may l ∧ o.Perm (l.filter full) ∧ SN o ∧ o.length ≤ 16 ∧ rightB may o = true) ∨ (mkL may l = ([], some 1) ∧ (¬ Good may l ∨ 16 < (l.filter full).length)) := by
  by_cases hg : Good may l
  · by_cases hl : (l.filter full).length ≤ 16
    · left
      have hs := sortF_sorted ord_lb l
      have h1 := (sort_ok l).2 hg
      have hsn := ((okFrom_iff _ hs).1 h1).1
      have hp := (sortF_perm (f := ordL) l).filter full
      have h16 : ((sortF ordL l).filter full).length ≤ 16 := by rw [hp.length_eq]; exact hl
      have hsf : SN ((sortF ordL l).filter full) := List.Pairwise.filter _ hsn
      refine ⟨_, mk_yes hg hp hsf h16, hg, hp, hsf, h16, (rightB_iff _).2 ⟨hsf, fun y hy => ?_, h16⟩⟩
      have hy2 := hp.subset hy
      rw [List.mem_filter] at hy2
      exact ⟨hg.1 y hy2.1, hy2.2⟩
    · exact Or.inr ⟨mk_no (Or.inr (by omega)), Or.inr (by omega)⟩
  · exact Or.inr ⟨mk_no (Or.inl hg), Or.inl hg⟩
/-- The same labels in another order are made the same. -/
theorem mk_perm {a b : List Lb} (p : a.Perm b) : mkL may a = mkL may b := by
  have hp := p.filter full
  rcases mk_cases (may := may) a with ⟨o, e, g, q, s, n, _⟩ | ⟨e, h⟩
  · rw [e]
    exact (mk_yes (Good.perm p g) (q.trans hp) s n).symm
  · rw [e]
    refine (mk_no ?_).symm
    rcases h with h | h
    · exact Or.inl fun g => h (Good.perm p.symm g)
    · exact Or.inr (by rw [← hp.length_eq]; exact h)
/-- Right labels are made as they are. -/
theorem mk_right {l : List Lb} (h : rightB may l = true) : mkL may l = (l, none) := by
  obtain ⟨h1, h2, h3⟩ := (rightB_iff l).1 h
  refine mk_yes ⟨fun y hy => (h2 y hy).1, h1.ne⟩ ?_ h1 h3
  rw [List.filter_eq_self.2 fun y hy => (h2 y hy).2]
end
end Go.Proofs.YtlelcmkbcejjkaaDoor.Lab
namespace Go.Proofs.YtlelcmkbcejjkaaDoor.Lab
open Go.Proofs Go.Sort Go.Proofs.YtlelcmkbcejjkaaDoor.Cmp Go.Proofs.YtlelcmkbcejjkaaDoor.L
set_option linter.unusedVariables false
set_option linter.unusedSimpArgs false
/-- Where a label is put, from the end on. -/
def atN (x : Lb) (out : List Lb) : Nat → Nat
  | 0 => 0
  | j + 1 => if (match out[j]? with | some y => decide (cmpS x.f0 y.f0 < 0) | none => false) = true then atN x out j else j + 1
theorem atN_le (x : Lb) (out : List Lb) : ∀ j, atN x out j ≤ j := by
  intro j
  induction j with
  | zero => exact Nat.le_refl _
  | succ j ih =>
    simp only [atN]
    repeat' split
    all_goals omega
theorem atN_above (x : Lb) (out : List Lb) : ∀ j, j ≤ out.length → ∀ i (hi : i < out.length), atN x out j ≤ i → i < j → cmpS x.f0 out[i].f0 < 0 := by
  intro j
  induction j with
  | zero => intro _ i hi h1 h2; omega
  | succ j ih =>
    intro hj i hi h1 h2
    simp only [atN] at h1
    rw [List.getElem?_eq_getElem (by omega)] at h1
    simp only at h1
    split at h1
    · rename_i hc
      rcases Nat.lt_or_ge i j with h3 | h3
      · exact ih (by omega) i hi h1 h3
      · obtain rfl : i = j := by omega
        simpa using hc
    · omega
theorem atN_below (x : Lb) (out : List Lb) : ∀ j, j ≤ out.length → ∀ n, atN x out j = n + 1 → ∃ h : n < out.length, ¬ cmpS x.f0 out[n].f0 < 0 := by
  intro j
  induction j with
  | zero => intro _ n h; simp [atN] at h
  | succ j ih =>
    intro hj n h
    simp only [atN] at h
    rw [List.getElem?_eq_getElem (by omega)] at h
    simp only at h
    split at h
    · exact ih (by omega) n h
    · rename_i hc
      obtain rfl : j = n := by omega
      exact ⟨by omega, by simpa using hc⟩
def insN (x : Lb) (out : List Lb) : List Lb := out.take (atN x out out.length) ++ x :: out.drop (atN x out out.length)
theorem insN_perm (x : Lb) (out : List Lb) : (insN x out).Perm (x :: out) := by
  unfold insN
  refine List.perm_middle.trans ?_
  rw [List.take_append_drop]
theorem insN_sn (x : Lb) (out : List Lb) (h : SN out) (hne : ∀ y ∈ out, y.f0 ≠ x.f0) : SN (insN x out) := by
  have hs := List.pairwise_iff_getElem.1 h
  have ha := atN_above x out out.length (Nat.le_refl _)
  have hb := atN_below x out out.length (Nat.le_refl _)
  have hl := atN_le x out out.length
  unfold insN
  generalize atN x out out.length = n at *
  have hlow : ∀ i (hi : i < out.length), i < n → cmpS out[i].f0 x.f0 < 0 := by
    intro i hi hin
    obtain ⟨m, rfl⟩ : ∃ m, n = m + 1 := ⟨n - 1, by omega⟩
    obtain ⟨hm, h2⟩ := hb m rfl
    have h3 : cmpS out[m].f0 x.f0 < 0 := by
      have h4 := Ord3.str.flip x.f0 out[m].f0
      have h5 : cmpS x.f0 out[m].f0 ≠ 0 := fun e => hne out[m] (List.getElem_mem hm) ((Ord3.str.eq _ _).1 e).symm
      omega
    rcases Nat.lt_or_eq_of_le (show i ≤ m by omega) with h6 | rfl
    · exact Ord3.str.trans _ _ _ (hs i m hi hm h6) h3
    · exact h3
  unfold SN
  rw [List.pairwise_append]
  refine ⟨h.take, List.pairwise_cons.2 ⟨fun y hy => ?_, h.drop⟩, fun a ha2 b hb2 => ?_⟩
  · obtain ⟨i, hi, rfl⟩ := List.mem_iff_getElem.1 hy
    rw [List.length_drop] at hi
    rw [List.getElem_drop]
    exact ha (n + i) (by omega) (by omega) (by omega)
  · obtain ⟨i, hi, rfl⟩ := List.mem_iff_getElem.1 ha2
    rw [List.length_take] at hi
    rw [List.getElem_take]
    rcases List.mem_cons.1 hb2 with rfl | hb3
    · exact hlow i (by omega) (by omega)
    · obtain ⟨k, hk, rfl⟩ := List.mem_iff_getElem.1 hb3
      rw [List.length_drop] at hk
      rw [List.getElem_drop]
      exact hs i (n + k) (by omega) (by omega) (by omega)
/-- One more label: from those of the front to those of one more. -/
theorem ins_step {may : Lb → Bool} {l out : List Lb} {i : Nat} (hi : i < l.length) (hg : Good may (l.take i)) (hp : out.Perm ((l.take i).filter full)) (hs : SN out) (hm : may l[i] = true) (hn : ∀ k (hk : k < l.length), k < i → l[k].f0 ≠ l[i].f0) :
    Good may (l.take (i + 1)) ∧ (full l[i] = false → out.Perm ((l.take (i + 1)).filter full)) ∧ (full l[i] = true → (insN l[i] out).Perm ((l.take (i + 1)).filter full) ∧ SN (insN l[i] out)) := by
  have hmem : ∀ y ∈ l.take i, y.f0 ≠ l[i].f0 := fun y hy => by
    obtain ⟨k, hk, rfl⟩ := List.mem_iff_getElem.1 hy
    rw [List.length_take] at hk
    rw [List.getElem_take]
    exact hn k (by omega) (by omega)
  rw [List.take_succ_eq_append_getElem hi]
  refine ⟨⟨fun y hy => ?_, ?_⟩, fun hf => ?_, fun hf => ⟨?_, ?_⟩⟩
  · rcases List.mem_append.1 hy with h | h
    · exact hg.1 y h
    · rw [List.mem_singleton.1 h]; exact hm
  · rw [List.pairwise_append]
    exact ⟨hg.2, List.pairwise_singleton _ _, fun a ha b hb => by rw [List.mem_singleton.1 hb]; exact hmem a ha⟩
  · rw [List.filter_append, List.filter_cons, hf]
    simpa using hp
  · rw [List.filter_append, List.filter_cons, hf]
    simp only [if_true, List.filter_nil]
    refine (insN_perm _ _).trans ?_
    refine (List.Perm.cons _ hp).trans ?_
    exact (List.perm_append_singleton _ _).symm
  · refine insN_sn _ _ hs fun y hy => ?_
    have := hp.subset hy
    rw [List.mem_filter] at this
    exact hmem y this.1
end Go.Proofs.YtlelcmkbcejjkaaDoor.Lab
namespace Go.Proofs.YtlelcmkbcejjkaaDoor.Lab
open Go.Lib
set_option linter.unusedVariables false
def runeN (n b0 b1 b2 b3 : Nat) : Nat :=
  if b0 < 128 then 1
  else if 194 ≤ b0 ∧ b0 < 224 ∧ (1 < n ∧ 128 ≤ b1 ∧ b1 ≤ 191) then 2
  else if 224 ≤ b0 ∧ b0 < 240 then (if (1 < n ∧ (if b0 = 224 then 160 else 128) ≤ b1 ∧ b1 ≤ (if b0 = 237 then 159 else 191)) ∧ (2 < n ∧ 128 ≤ b2 ∧ b2 ≤ 191) then 3 else 0)
  else if 240 ≤ b0 ∧ b0 < 245 then (if (1 < n ∧ (if b0 = 240 then 144 else 128) ≤ b1 ∧ b1 ≤ (if b0 = 244 then 143 else 191)) ∧ (2 < n ∧ 128 ≤ b2 ∧ b2 ≤ 191) ∧ (3 < n ∧ 128 ≤ b3 ∧ b3 ≤ 191) then 4 else 0)
  else 0
def Fits (r : Nat) (d : Nat × Nat) : Prop := (r = 0 → d = (65533, 1)) ∧ (r ≠ 0 → d.2 = r ∧ ¬ (d.1 = 65533 ∧ d.2 = 1))
set_option maxRecDepth 100000 in
set_option maxHeartbeats 4000000 in
theorem rune_slow2 (n b0 b1 b2 b3 : Nat) (hb : 194 ≤ b0 ∧ b0 < 224) : Fits (runeN n b0 b1 b2 b3) (slowN n b0 b1 b2 b3 2 128 191) := by
  unfold runeN
  rw [if_neg (by omega)]
  by_cases h : 1 < n ∧ 128 ≤ b1 ∧ b1 ≤ 191
  · rw [if_pos ⟨hb.1, hb.2, h⟩]
    unfold slowN
    rw [if_neg (by omega), if_neg (by omega), if_pos (by omega)]
    exact ⟨fun e => by omega, fun _ => ⟨rfl, fun e => by simp only at e; omega⟩⟩
  · rw [if_neg (fun e => h e.2.2), if_neg (by omega), if_neg (by omega)]
    refine ⟨fun _ => ?_, fun e => absurd rfl e⟩
    unfold slowN
    by_cases h2 : n < 2
    · rw [if_pos h2]
    · rw [if_neg h2, if_pos (by omega)]
set_option maxRecDepth 100000 in
set_option maxHeartbeats 4000000 in
theorem rune_slow3 (n b0 b1 b2 b3 lo hi : Nat) (hb : 224 ≤ b0 ∧ b0 < 240) (hlo : (if b0 = 224 then 160 else 128) = lo) (hhi : (if b0 = 237 then 159 else 191) = hi) (h37 : b0 = 237 → lo = 128) (h1 : 128 ≤ lo) (h2 : hi ≤ 191) : Fits (runeN n b0 b1 b2 b3) (slowN n b0 b1 b2 b3 3 lo hi) := by
  unfold runeN
  rw [if_neg (by omega), if_neg (by omega), if_pos hb, hlo, hhi]
  by_cases h : (1 < n ∧ lo ≤ b1 ∧ b1 ≤ hi) ∧ (2 < n ∧ 128 ≤ b2 ∧ b2 ≤ 191)
  · rw [if_pos h]
    unfold slowN
    rw [if_neg (by omega), if_neg (by omega), if_neg (by omega), if_neg (by omega), if_pos (by omega)]
    exact ⟨fun e => by omega, fun _ => ⟨rfl, fun e => by simp only at e; omega⟩⟩
  · rw [if_neg h]
    refine ⟨fun _ => ?_, fun e => absurd rfl e⟩
    unfold slowN
    by_cases g : n < 3
    · rw [if_pos g]
    · rw [if_neg g]
      by_cases g2 : b1 < lo ∨ hi < b1
      · rw [if_pos g2]
      · rw [if_neg g2, if_neg (by omega), if_pos (by omega)]
set_option maxRecDepth 100000 in
set_option maxHeartbeats 4000000 in
theorem rune_slow4 (n b0 b1 b2 b3 lo hi : Nat) (hb : 240 ≤ b0 ∧ b0 < 245) (hlo : (if b0 = 240 then 144 else 128) = lo) (hhi : (if b0 = 244 then 143 else 191) = hi) : Fits (runeN n b0 b1 b2 b3) (slowN n b0 b1 b2 b3 4 lo hi) := by
  unfold runeN
  rw [if_neg (by omega), if_neg (by omega), if_neg (by omega), if_pos hb, hlo, hhi]
  by_cases h : (1 < n ∧ lo ≤ b1 ∧ b1 ≤ hi) ∧ (2 < n ∧ 128 ≤ b2 ∧ b2 ≤ 191) ∧ (3 < n ∧ 128 ≤ b3 ∧ b3 ≤ 191)
  · rw [if_pos h]
    unfold slowN
    rw [if_neg (by omega), if_neg (by omega), if_neg (by omega), if_neg (by omega), if_neg (by omega), if_neg (by omega)]
    exact ⟨fun e => by omega, fun _ => ⟨rfl, fun e => by simp only at e; omega⟩⟩
  · rw [if_neg h]
    refine ⟨fun _ => ?_, fun e => absurd rfl e⟩
    unfold slowN
    by_cases g : n < 4
    · rw [if_pos g]
    · rw [if_neg g]
      by_cases g2 : b1 < lo ∨ hi < b1
      · rw [if_pos g2]
      · rw [if_neg g2, if_neg (by omega)]
        by_cases g3 : b2 < 128 ∨ 191 < b2
        · rw [if_pos g3]
        · rw [if_neg g3, if_neg (by omega), if_pos (by omega)]
set_option maxRecDepth 100000 in
set_option maxHeartbeats 4000000 in
theorem dec_bad (n b0 b1 b2 b3 : Nat) (hb : 128 ≤ b0 ∧ b0 < 194 ∨ 245 ≤ b0 ∧ b0 < 256) : decodeN n b0 b1 b2 b3 = (65533, 1) := by
  unfold decodeN
  repeat' split
  all_goals first | rfl | (exfalso; omega)
theorem rune_dec (n b0 b1 b2 b3 : Nat) (hn : 1 ≤ n) (h0 : b0 < 256) (h1 : b1 < 256) (h2 : b2 < 256) (h3 : b3 < 256) : Fits (runeN n b0 b1 b2 b3) (decodeN n b0 b1 b2 b3) := by
  by_cases a : b0 < 128
  · unfold runeN decodeN
    rw [if_pos a, if_pos a]
    exact ⟨fun e => by omega, fun _ => ⟨rfl, fun e => by simp only at e; omega⟩⟩
  by_cases b : b0 < 194 ∨ 245 ≤ b0
  · rw [dec_bad _ _ _ _ _ (by omega)]
    unfold runeN
    rw [if_neg a, if_neg (by omega), if_neg (by omega), if_neg (by omega)]
    exact ⟨fun _ => rfl, fun e => absurd rfl e⟩
  by_cases c : b0 < 224
  · rw [← slow_C2 n b0 b1 b2 b3 hn h1 h2 h3 (by omega)]
    exact rune_slow2 n b0 b1 b2 b3 (by omega)
  by_cases d : b0 < 240
  · by_cases e1 : b0 = 224
    · rw [← slow_E0 n b0 b1 b2 b3 hn h1 h2 h3 e1]
      exact rune_slow3 n b0 b1 b2 b3 160 191 (by omega) (by rw [if_pos e1]) (by rw [if_neg (by omega)]) (by omega) (by omega) (by omega)
    · by_cases e2 : b0 = 237
      · rw [← slow_ED n b0 b1 b2 b3 hn h1 h2 h3 e2]
        exact rune_slow3 n b0 b1 b2 b3 128 159 (by omega) (by rw [if_neg e1]) (by rw [if_pos e2]) (by omega) (by omega) (by omega)
      · rw [← slow_E1 n b0 b1 b2 b3 hn h1 h2 h3 (by omega)]
        exact rune_slow3 n b0 b1 b2 b3 128 191 (by omega) (by rw [if_neg e1]) (by rw [if_neg e2]) (by omega) (by omega) (by omega)
  · by_cases e1 : b0 = 240
    · rw [← slow_F0 n b0 b1 b2 b3 hn h1 h2 h3 e1]
      exact rune_slow4 n b0 b1 b2 b3 144 191 (by omega) (by rw [if_pos e1]) (by rw [if_neg (by omega)])
    · by_cases e2 : b0 = 244
      · rw [← slow_F4 n b0 b1 b2 b3 hn h1 h2 h3 e2]
        exact rune_slow4 n b0 b1 b2 b3 128 143 (by omega) (by rw [if_neg e1]) (by rw [if_pos e2])
      · rw [← slow_F1 n b0 b1 b2 b3 hn h1 h2 h3 (by omega)]
        exact rune_slow4 n b0 b1 b2 b3 128 191 (by omega) (by rw [if_neg e1]) (by rw [if_neg e2])
def runeL (l : List UInt8) : Nat := runeN l.length (l.getD 0 0).toNat (l.getD 1 0).toNat (l.getD 2 0).toNat (l.getD 3 0).toNat
theorem valid_rune (l : List UInt8) (hl : l ≠ []) : validD l = if runeL l = 0 then false else validD (l.drop (runeL l)) := by
  have h := rune_dec l.length (l.getD 0 0).toNat (l.getD 1 0).toNat (l.getD 2 0).toNat (l.getD 3 0).toNat (List.length_pos_iff.2 hl) (UInt8.toNat_lt _) (UInt8.toNat_lt _) (UInt8.toNat_lt _) (UInt8.toNat_lt _)
  rw [← decodeL_N] at h
  rw [validD_step l hl]
  by_cases e : runeL l = 0
  · have := h.1 e
    rw [if_pos e, this, if_pos ⟨rfl, rfl⟩]
  · obtain ⟨h1, h2⟩ := h.2 e
    rw [if_neg e, if_neg h2, h1]
    rfl
end Go.Proofs.YtlelcmkbcejjkaaDoor.Lab
namespace Go.Proofs.YtlelcmkbcejjkaaDoor.Lab
open Go.Proofs Go.RowKit Go.Proofs.YtlelcmkbcejjkaaDoorW.PrintWords Go.Proofs.YtlelcmkbcejjkaaDoorW.PrintLast Go.Proofs.YtlelcmkbcejjkaaDoor.L
set_option linter.unusedVariables false
def Ev {α : Type} (f : Nat → Option α) (x : α) : Prop := ∃ K, ∀ k, K ≤ k → f k = some x
theorem Ev.step {α : Type} {f g : Nat → Option α} {x : α} (h : Ev g x) (e : ∀ k, f (k + 1) = g k) : Ev f x := by
  obtain ⟨K, hK⟩ := h
  refine ⟨K + 1, fun k hk => ?_⟩
  obtain ⟨m, rfl⟩ : ∃ m, k = m + 1 := ⟨k - 1, by omega⟩
  rw [e m]
  exact hK m (by omega)
theorem Ev.eq {α : Type} {f g : Nat → Option α} {x : α} (h : Ev g x) (e : ∀ k, f k = g k) : Ev f x := by
  obtain ⟨K, hK⟩ := h
  exact ⟨K, fun k hk => by rw [e k]; exact hK k hk⟩
theorem Ev.done {α : Type} {f : Nat → Option α} {x : α} (e : ∀ k, f (k + 1) = some x) : Ev f x :=
  ⟨1, fun k hk => by obtain ⟨m, rfl⟩ : ∃ m, k = m + 1 := ⟨k - 1, by omega⟩; exact e m⟩
theorem Ev.const {α : Type} {x : α} : Ev (fun _ => some x) x := ⟨0, fun _ _ => rfl⟩
theorem Ev.bind {α β : Type} {f : Nat → Option α} {x : α} {g : α → Nat → Option β} {y : β} (h : Ev f x) (hg : Ev (g x) y) : Ev (fun k => (f k).bind fun t => g t k) y := by
  obtain ⟨K, hK⟩ := h
  obtain ⟨L, hL⟩ := hg
  refine ⟨max K L, fun k hk => ?_⟩
  show (f k).bind (fun t => g t k) = _
  rw [hK k (by omega)]
  exact hL k (by omega)
/-- A step that first asks another function. -/
theorem Ev.ask {α β : Type} {f : Nat → Option α} {x : α} {F G : Nat → Option β} {g : α → Nat → Option β} {y : β} (h : Ev f x) (hg : Ev G y) (e : ∀ k, F (k + 1) = (f k).bind fun t => g t k) (e2 : ∀ k, g x k = G k) : Ev F y := by
  obtain ⟨K, hK⟩ := h
  obtain ⟨L, hL⟩ := hg
  refine ⟨max K L + 1, fun k hk => ?_⟩
  obtain ⟨m, rfl⟩ : ∃ m, k = m + 1 := ⟨k - 1, by omega⟩
  rw [e m, hK m (by omega)]
  show g x m = _
  rw [e2 m]
  exact hL m (by omega)
theorem Ev.ask0 {α β : Type} {f : Nat → Option α} {x : α} {F G : Nat → Option β} {g : α → Nat → Option β} {y : β} (h : Ev f x) (hg : Ev G y) (e : ∀ k, F k = (f k).bind fun t => g t k) (e2 : ∀ k, g x k = G k) : Ev F y := by
  obtain ⟨K, hK⟩ := h
  obtain ⟨L, hL⟩ := hg
  refine ⟨max K L, fun m hk => ?_⟩
  rw [e m, hK m (by omega)]
  show g x m = _
  rw [e2 m]
  exact hL m (by omega)
theorem Ev.some {α : Type} {f : Nat → Option α} {x : α} (h : Ev f x) : ∃ k, f k = Option.some x := by
  obtain ⟨K, hK⟩ := h
  exact ⟨K, hK K (Nat.le_refl _)⟩
theorem bt_drop {s : ByteArray} {i : Nat} {c : UInt8} {r : List UInt8} (h : s.data.toList.drop i = c :: r) : bt s (i : Int) = (c.toNat : Int) ∧ i < s.size ∧ s.data.toList.drop (i + 1) = r := by
  have hlt : i < s.data.toList.length := by
    rcases Nat.lt_or_ge i s.data.toList.length with h1 | h1
    · exact h1
    · rw [List.drop_eq_nil_of_le h1] at h; cases h
  have hs : i < s.size := by simpa using hlt
  have e := List.drop_eq_getElem_cons hlt
  rw [h] at e
  refine ⟨?_, hs, ?_⟩
  · unfold bt
    rw [dif_pos (by simpa using hs)]
    have e1 := (List.cons.inj e).1
    rw [e1]
    simp
    rfl
  · exact (List.cons.inj e).2.symm
theorem drop_nil {s : ByteArray} {i : Nat} (h : s.data.toList.drop i = []) : s.size ≤ i := by
  have := List.drop_eq_nil_iff.1 h
  simpa using this
theorem wrap_succ {i n : Nat} (h : i < n) (hn : n < 4611686018427387904) : wrap64 ((i : Int) + 1) = ((i + 1 : Nat) : Int) := by unfold wrap64; omega
theorem wrap_pred {i : Nat} (h : 0 < i) (hn : i < 4611686018427387904) : wrap64 ((i : Int) - 1) = ((i - 1 : Nat) : Int) := by unfold wrap64; omega
theorem len_data (s : ByteArray) : s.data.toList.length = s.size := by simp
theorem toList_nil (s : ByteArray) : s.toList = ([] : List UInt8) ↔ s.size = 0 := by
  rw [Lib.toList_data, ← len_data, List.length_eq_zero_iff]
theorem toList_eq (s t : ByteArray) : s.toList = t.toList ↔ s = t := by
  rw [Lib.toList_data, Lib.toList_data]
  exact ⟨fun e => ByteArray.ext (Array.toList_inj.1 e), fun e => by rw [e]⟩
theorem empty_iff (s : ByteArray) : s = ByteArray.empty ↔ s.size = 0 := by
  constructor
  · intro e; rw [e]; rfl
  · intro e
    have h := List.length_eq_zero_iff.1 ((len_data s).trans e)
    exact ByteArray.ext (Array.toList_inj.1 h)
end Go.Proofs.YtlelcmkbcejjkaaDoor.Lab
