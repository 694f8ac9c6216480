/- Arguments of any make (whole numbers, bools, strings, slices, structs of two or three fields, in each other) opened to the words of the walks. -/
import Derived.Test.YtlelcmkbcejjkaaDoorWWords
import Derived.ProofKit
import Derived.ChangeArms
import Derived.Deep.Slices
import Derived.Deep.Fields
import Derived.ChangeSame
namespace Go.Proofs.YtlelcmkbcejjkaaDoor.Open
open Go.RowKit Go.Proofs.YtlelcmkbcejjkaaDoorW.PrintWords Go.ChangeShapes Go.WideShapes Go.Deep
set_option linter.unusedVariables false
set_option linter.unusedSimpArgs false

/-- What reads as data of type t is of the kind d. -/
structure Opens {α : Type} (P : Program) (d : Kd α) (t : TypeId) (ok : α → Prop) : Prop where
  cells : P.cellsOf t = d.sz
  read : ∀ {H : Type} {enc : TypeId × Value → H} {w : World} {base : Nat} {spare : Nat → Bool} {held : Bool} {fuel : Nat} {cs : List Value} {x : DataW H × List MemPlace},
    DataW.trod enc P w base spare held fuel t cs = some x → ∃ v : α, d.K w v cs ∧ ok v

variable {P : Program}
theorem opens_int {t : TypeId} {k : IntKind} (ht : P.underlying t = some (.int k)) (hc : P.cellsOf t = 1) : Opens P (Kd.int k) t (fun n => (Lit.int k n).wf = true) :=
  ⟨hc, fun h => by obtain ⟨n, rfl, _, hw⟩ := DataW.trod_int ht h; exact ⟨n, rfl, hw⟩⟩
theorem opens_bool {t : TypeId} (ht : P.underlying t = some .bool) (hc : P.cellsOf t = 1) : Opens P Kd.bool t (fun _ => True) :=
  ⟨hc, fun h => by obtain ⟨n, rfl, _⟩ := DataW.trod_bool ht h; exact ⟨n, rfl, trivial⟩⟩
theorem opens_string {t : TypeId} (ht : P.underlying t = some .string) (hc : P.cellsOf t = 1) : Opens P Kd.string t (fun s => s.size ≤ maxLen) :=
  ⟨hc, fun h => by obtain ⟨s, rfl, _, hw⟩ := DataW.trod_string ht h; exact ⟨s, rfl, hw⟩⟩

theorem choose_list {α : Type} {n : Nat} {p : Nat → α → Prop} (h : ∀ i, i < n → ∃ x, p i x) : ∃ l : List α, l.length = n ∧ ∀ i (hi : i < l.length), p i l[i] := by
  induction n with
  | zero => exact ⟨[], rfl, fun i hi => by simp at hi⟩
  | succ n ih =>
    obtain ⟨l, hl, hp⟩ := ih (fun i hi => h i (Nat.lt_succ_of_lt hi))
    obtain ⟨x, hx⟩ := h n (Nat.lt_succ_self n)
    refine ⟨l ++ [x], by simp [hl], fun i hi => ?_⟩
    rw [List.length_append, List.length_singleton] at hi
    rcases Nat.lt_or_ge i l.length with h1 | h1
    · rw [List.getElem_append_left h1]; exact hp i h1
    · obtain rfl : i = n := by omega
      rw [List.getElem_append_right h1]
      simpa [hl] using hx

theorem opens_slice {α : Type} {d : Kd α} {t e : TypeId} {ok : α → Prop} (ht : P.underlying t = some (.slice e)) (hc : P.cellsOf t = 1) (o : Opens P d e ok) : Opens P (Kd.slice e d) t (fun xs => xs.length ≤ 9223372036854775807 ∧ ∀ x ∈ xs, ok x) :=
  ⟨hc, fun {H enc w base spare held fuel cs x} h => by
    rcases open_slice ht h with ⟨rfl, _⟩ | ⟨a, len, cap, m, n, D, Pl, rfl, hb, hl, hm, hmm, _, hi⟩
    · exact ⟨[], ⟨none, 0, rfl, Nat.le_refl _, rfl, by simp, fun h => absurd h (by simp)⟩, by simp, fun x hx => by simp at hx⟩
    · have hlm : len ≤ m := by rw [hmm]; split <;> omega
      obtain ⟨l, hll, hp⟩ := choose_list (n := len) (p := fun i (v : α) => ok v ∧ ∃ c, c.length = d.sz ∧ d.K w v c ∧ ∀ j u, c[j]? = some u → w.cell? (a.add (i * d.sz + j)) = some u) (fun i hlt => by
        obtain ⟨cs', h1, h2⟩ := hi i (by omega)
        obtain ⟨v, hK, hok⟩ := o.read h2
        obtain ⟨_, hlen, hat⟩ := World.cells?_some h1
        refine ⟨v, hok, cs', by rw [hlen, o.cells], hK, fun j u hu => ?_⟩
        have hj : j < P.cellsOf e := by
          have := (List.getElem?_eq_some_iff.1 hu).1
          omega
        rw [← Go.Deep.add_add, ← o.cells, hat j hj, hu])
      refine ⟨l, ⟨some a, cap, by rw [hll], by omega, hll ▸ rfl, by simp only [maxLen] at hm; omega, fun _ => ⟨a, rfl, fun j p hj => ?_⟩⟩, ?_⟩
      · obtain ⟨hj1, rfl⟩ := List.getElem?_eq_some_iff.1 hj
        obtain ⟨_, c, c1, c2, c3⟩ := hp j hj1
        exact ⟨c, c1, c2, c3⟩
      · refine ⟨by simp only [maxLen] at hm; omega, fun x hx => ?_⟩
        obtain ⟨i, hi', rfl⟩ := List.mem_iff_getElem.1 hx
        exact (hp i hi').1⟩

theorem opens_struct2 {α β γ : Type} {a : Kd α} {b : Kd β} {t : TypeId} {f0 f1 : Field} {ok0 : α → Prop} {ok1 : β → Prop} (hs : P.underlying t = some (.struct #[f0, f1])) (hc : P.cellsOf t = a.sz + b.sz)
    (o0 : f0.offset = 0) (o1 : f1.offset = a.sz) (O0 : Opens P a f0.type ok0) (O1 : Opens P b f1.type ok1) (pr : γ → α × β) (mk : α → β → γ) (hm : ∀ x y, pr (mk x y) = (x, y)) :
    Opens P (Kd.iso (Kd.pair a b) pr) t (fun c => ok0 (pr c).1 ∧ ok1 (pr c).2) :=
  ⟨hc, fun {H enc w base spare held fuel cs x} h => by
    obtain ⟨xs, n, _, _, hlen, hxl, hf⟩ := DataW.trod_struct hs h
    have h0 := hf 0 f0 rfl
    have h1 := hf 1 f1 rfl
    have hx0 : xs[0]? = some (xs[0]'(by simp at hxl; omega)) := List.getElem?_eq_getElem _
    have hx1 : xs[1]? = some (xs[1]'(by simp at hxl; omega)) := List.getElem?_eq_getElem _
    rw [hx0] at h0
    rw [hx1] at h1
    obtain ⟨x0, k0, w0⟩ := O0.read h0
    obtain ⟨x1, k1, w1⟩ := O1.read h1
    rw [o0, List.drop_zero, O0.cells] at k0
    rw [o1, O1.cells, List.take_of_length_le (by rw [List.length_drop]; omega)] at k1
    refine ⟨mk x0 x1, ⟨cs.take a.sz, cs.drop a.sz, (List.take_append_drop _ _).symm, ?_, ?_⟩, ?_, ?_⟩
    · show a.K w (pr (mk x0 x1)).1 _; rw [hm]; exact k0
    · show b.K w (pr (mk x0 x1)).2 _; rw [hm]; exact k1
    · rw [hm]; exact w0
    · rw [hm]; exact w1⟩

theorem opens_struct3 {α β γ δ : Type} {a : Kd α} {b : Kd β} {c : Kd γ} {t : TypeId} {f0 f1 f2 : Field} {ok0 : α → Prop} {ok1 : β → Prop} {ok2 : γ → Prop} (hs : P.underlying t = some (.struct #[f0, f1, f2])) (hc : P.cellsOf t = a.sz + (b.sz + c.sz))
    (o0 : f0.offset = 0) (o1 : f1.offset = a.sz) (o2 : f2.offset = a.sz + b.sz) (O0 : Opens P a f0.type ok0) (O1 : Opens P b f1.type ok1) (O2 : Opens P c f2.type ok2) (pr : δ → α × β × γ) (mk : α → β → γ → δ) (hm : ∀ x y z, pr (mk x y z) = (x, y, z)) :
    Opens P (Kd.iso (Kd.pair a (Kd.pair b c)) pr) t (fun v => ok0 (pr v).1 ∧ ok1 (pr v).2.1 ∧ ok2 (pr v).2.2) :=
  ⟨hc, fun {H enc w base spare held fuel cs x} h => by
    obtain ⟨xs, n, _, _, hlen, hxl, hf⟩ := DataW.trod_struct hs h
    have h0 := hf 0 f0 rfl
    have h1 := hf 1 f1 rfl
    have h2 := hf 2 f2 rfl
    have hx0 : xs[0]? = some (xs[0]'(by simp at hxl; omega)) := List.getElem?_eq_getElem _
    have hx1 : xs[1]? = some (xs[1]'(by simp at hxl; omega)) := List.getElem?_eq_getElem _
    have hx2 : xs[2]? = some (xs[2]'(by simp at hxl; omega)) := List.getElem?_eq_getElem _
    rw [hx0] at h0
    rw [hx1] at h1
    rw [hx2] at h2
    obtain ⟨x0, k0, w0⟩ := O0.read h0
    obtain ⟨x1, k1, w1⟩ := O1.read h1
    obtain ⟨x2, k2, w2⟩ := O2.read h2
    rw [o0, List.drop_zero, O0.cells] at k0
    rw [o1, O1.cells] at k1
    rw [o2, O2.cells, ← List.drop_drop, List.take_of_length_le (by rw [List.length_drop, List.length_drop]; omega)] at k2
    refine ⟨mk x0 x1 x2, ⟨cs.take a.sz, cs.drop a.sz, (List.take_append_drop _ _).symm, ?_, (cs.drop a.sz).take b.sz, (cs.drop a.sz).drop b.sz, (List.take_append_drop _ _).symm, ?_, ?_⟩, ?_, ?_, ?_⟩
    · show a.K w (pr (mk x0 x1 x2)).1 _; rw [hm]; exact k0
    · show b.K w (pr (mk x0 x1 x2)).2.1 _; rw [hm]; exact k1
    · show c.K w (pr (mk x0 x1 x2)).2.2 _; rw [hm]; exact k2
    · rw [hm]; exact w0
    · rw [hm]; exact w1
    · rw [hm]; exact w2⟩

/-- A parameter that is a slice. -/
theorem param_slice {α : Type} {d : Kd α} {t e : TypeId} {ok : List α → Prop} (O : Opens P (Kd.slice e d) t ok) {H : Type} {enc : TypeId × Value → H} {w : World} {base : Nat} {spare : Nat → Bool} {held : Bool} {A : Option Addr} {n c : Nat} {dd : DataW H} {ps : List MemPlace}
    (h : DataW.Trod enc P w base spare held t (.slice A n c) dd ps) : ∃ xs : List α, xs.length = n ∧ n ≤ c ∧ d.C w A xs.length xs ∧ ok xs := by
  obtain ⟨fuel, hf⟩ := h
  obtain ⟨xs, ⟨A', c', e1, hl, hC⟩, hok⟩ := O.read hf
  have e2 : [Value.slice A n c] = [Value.slice A' xs.length c'] := e1
  injection e2 with e3
  injection e3 with e4 e5 e6
  subst e4 e5 e6
  exact ⟨xs, rfl, hl, hC, hok⟩
/-- A parameter that is a struct, by value. -/
theorem param_agg {α : Type} {d : Kd α} {t : TypeId} {ok : α → Prop} (O : Opens P d t ok) {H : Type} {enc : TypeId × Value → H} {w : World} {base : Nat} {spare : Nat → Bool} {held : Bool} {cs : Array Value} {dd : DataW H} {ps : List MemPlace}
    (h : DataW.Trod enc P w base spare held t (.agg cs) dd ps) : ∃ x : α, d.K w x cs.toList ∧ ok x := by
  obtain ⟨fuel, hf⟩ := h
  exact O.read hf
end Go.Proofs.YtlelcmkbcejjkaaDoor.Open
