/- From what the rows list (laid) to what the contracts ask; a world that meets the list. -/
import Derived.Test.YtmgbnnanophehaaDoorRows
import Derived.Test.YtmgbnnanophehaaDoorSpanH
import Derived.LaidSub
import Derived.LaidHandle
import Derived.Lib.LaidIn
import Derived.Lib.LaidTab
import Derived.Lib.LaidU8
import Derived.RowKitTokens
import Derived.Stop.Joined
namespace Go.Proofs.YtmgbnnanophehaaDoor.Laid
open Go.ChangeShapes Go.WideShapes Go.RowKit Go.Lib Go.Proofs.YtmgbnnanophehaaDoor.S Go.Proofs.YtmgbnnanophehaaDoor.Span
set_option linter.unusedVariables false
abbrev LL : List (String × DataW Unit) := Rows.spanParsesRow.laid
theorem et : Tryd.prog.globalNamed "errors.errorType" = some 1 := by kernel_rfl
theorem rt : (Tryd.prog.cutTypes.find? (·.1 == "internal/reflectlite.rtype")).map (·.2) = some 119 := by kernel_rfl
theorem oneRow : ((List.range Tryd.prog.types.size).filter fun t => Tryd.prog.rowNamed t [101, 114, 114, 111, 114]) = [24] := by kernel_rfl
theorem errTab {W : World} (h : laidMetH Tryd.prog LL W) : Err.ErrTab W := by
  have h' := (laidMetH_iff.1 h).2
  obtain ⟨name, u, ty, e1, e2, e3, e4, e5⟩ := h' ("errors.errorType", Rows.laid_errors_errorType) (List.mem_filter.2 ⟨.tail _ (.tail _ (.tail _ (.tail _ (.head _)))), rfl⟩)
  have en : name = [101, 114, 114, 111, 114] := (Option.some.inj e1).symm
  subst en
  obtain rfl := Option.some.inj (rt.symm.trans e2)
  have hm : ty ∈ (List.range Tryd.prog.types.size).filter fun t => Tryd.prog.rowNamed t [101, 114, 114, 111, 114] := List.mem_filter.2 ⟨List.mem_range.2 e3, e4⟩
  rw [oneRow] at hm
  obtain rfl := List.mem_singleton.1 hm
  have hh : typeHandle Tryd.prog 24 = .pointer (some ⟨8, 24, none⟩) := by kernel_rfl
  rw [hh] at e5
  unfold Err.ErrTab
  simpa using World.var?_cell et e5 0
theorem pTab {W : World} (h : laidMetH Tryd.prog LL W) : PTab W := by
  obtain ⟨g', t', cs, fuel, p, hg', ht', hvar, hd⟩ := laidMet.reads (laidMetH_iff.1 h).1 (n := "internal/strconv.uint64pow10") (d := Rows.laid_internal_strconv_uint64pow10) (List.mem_filter.2 ⟨.tail _ (.tail _ (.head _)), rfl⟩)
  have hg : Tryd.prog.globalNamed "internal/strconv.uint64pow10" = some 2 := by kernel_rfl
  have hty : (Tryd.prog.globals[2]?).map (·.type) = some 154 := by kernel_rfl
  obtain rfl := Option.some.inj (hg.symm.trans hg')
  obtain rfl := Option.some.inj (hty.symm.trans ht')
  have hcs := cells_of_tab (zs := Lib.pow10Tab) (k := .u64) Tryd.underlying154 Tryd.underlying140 (by kernel_rfl) (by kernel_rfl) hd
  unfold PTab TabIs
  rw [hvar, ← hcs]
theorem unit_at {enc : TypeId × Value → Unit} {w : World} {base : Nat} {sp : Nat → Bool} {held : Bool} {fuel : Nat} {cs : List Value} {nm : List UInt8} {z : Int} {q : List MemPlace}
    (h : DataW.trod enc Tryd.prog w base sp held fuel 74 cs = some (.agg [.lit (.string nm), .lit (.int .i64 z)], q)) : cs[0]? = some (.string (B nm)) ∧ cs[1]? = some (.int .i64 z) := by
  obtain ⟨xs, n, rfl, hx, hl, hxl, hall⟩ := DataW.trod_struct Tryd.underlying74 h
  have hxs : xs.map (·.1) = [.lit (.string nm), .lit (.int .i64 z)] := by
    have := congrArg Prod.fst hx
    simpa using this.symm
  have h0 := hall 0 _ rfl
  have h1 := hall 1 _ rfl
  match xs, hxs with
  | [x0, x1], hxs =>
    simp only [List.map_cons, List.map_nil, List.cons.injEq, and_true] at hxs
    obtain ⟨g0, g1⟩ := hxs
    simp only [List.getElem?_cons_zero, List.getElem?_cons_succ] at h0 h1
    obtain ⟨s, e1, e2, _⟩ := DataW.trod_string Tryd.underlying9 h0
    obtain ⟨m, f1, f2, _⟩ := DataW.trod_int Tryd.underlying2 h1
    subst e2
    subst f2
    have hc1 : Tryd.prog.cellsOf 9 = 1 := by kernel_rfl
    have hc2 : Tryd.prog.cellsOf 2 = 1 := by kernel_rfl
    have a0 := congrArg (·[0]?) e1
    have b0 := congrArg (·[0]?) f1
    simp only [List.getElem?_take, List.getElem?_drop] at a0 b0
    simp only [DataW.lit.injEq, Lit.string.injEq, Lit.int.injEq, true_and] at g0 g1
    constructor
    · have : s = B nm := ByteArray.ext (Array.toList_inj.1 g0)
      rw [← this]
      simpa [hc1] using a0
    · rw [← g1]
      simpa [hc2] using b0
theorem uTab {W : World} (h : laidMetH Tryd.prog LL W) : UTab W := by
  obtain ⟨g', t', cs, fuel, p, hg', ht', hvar, hd⟩ := laidMet.reads (laidMetH_iff.1 h).1 (n := "soundings/span.units") (d := Rows.laid_soundings_span_units) (List.mem_filter.2 ⟨.tail _ (.tail _ (.tail _ (.tail _ (.tail _ (.head _))))), rfl⟩)
  have hg : Tryd.prog.globalNamed "soundings/span.units" = some 0 := by kernel_rfl
  have hty : (Tryd.prog.globals[0]?).map (·.type) = some 75 := by kernel_rfl
  obtain rfl := Option.some.inj (hg.symm.trans hg')
  obtain rfl := Option.some.inj (hty.symm.trans ht')
  have hc : Tryd.prog.cellsOf 74 = 2 := by kernel_rfl
  have key : ∀ (i : Nat) (nm : List UInt8) (z : Int), i < 7 → (([([121], 31536000000), ([119], 604800000), ([100], 86400000), ([104], 3600000), ([109], 60000), ([115], 1000), ([109, 115], 1)] : List (List UInt8 × Int)))[i]? = some (nm, z) →
      W.cell? ⟨0, 2 * i, none⟩ = some (.string (B nm)) ∧ W.cell? ⟨0, 2 * i + 1, none⟩ = some (.int .i64 z) := by
    intro i nm z hi he
    obtain ⟨fuel', d, q, hdi, hx⟩ := array_elem Tryd.underlying75 hd i hi
    have hde : d = .agg [.lit (.string nm), .lit (.int .i64 z)] := by
      rcases (show i = 0 ∨ i = 1 ∨ i = 2 ∨ i = 3 ∨ i = 4 ∨ i = 5 ∨ i = 6 by omega) with rfl | rfl | rfl | rfl | rfl | rfl | rfl <;>
        (simp only [List.getElem?_cons_zero, List.getElem?_cons_succ, Option.some.injEq, Prod.mk.injEq] at he hdi; rw [← he.1, ← he.2]; exact hdi.symm)
    subst hde
    rw [hc] at hx
    obtain ⟨h0, h1⟩ := unit_at hx
    simp only [List.getElem?_take, List.getElem?_drop] at h0 h1
    constructor
    · rw [World.var?_cell hg hvar (2 * i), ← Array.getElem?_toList]
      simpa [Nat.mul_comm] using h0
    · rw [World.var?_cell hg hvar (2 * i + 1), ← Array.getElem?_toList]
      simpa [Nat.mul_comm] using h1
  exact ⟨(key 0 _ _ (by omega) rfl).1, (key 0 _ _ (by omega) rfl).2, (key 1 _ _ (by omega) rfl).1, (key 1 _ _ (by omega) rfl).2, (key 2 _ _ (by omega) rfl).1, (key 2 _ _ (by omega) rfl).2, (key 3 _ _ (by omega) rfl).1, (key 3 _ _ (by omega) rfl).2,
    (key 4 _ _ (by omega) rfl).1, (key 4 _ _ (by omega) rfl).2, (key 5 _ _ (by omega) rfl).1, (key 5 _ _ (by omega) rfl).2, (key 6 _ _ (by omega) rfl).1, (key 6 _ _ (by omega) rfl).2⟩
theorem gl {W : World} (h : laidMetH Tryd.prog LL W) : GL W := ⟨uTab h, pTab h, errTab h⟩

/-- A world that meets the list: the settled one, the listed variables holding what their initialisers lay. -/
noncomputable def laidWorld (os : Os) : World :=
  let w0 := World.holding Tryd.prog os ⟨#[], #[], []⟩
  let put (h : Array Obj) (g : Nat) (cs : Array Value) : Array Obj := h.modify g fun
    | .cells _ t frozen => .cells cs t frozen
    | o => o
  let h0 := put w0.heap 0 #[.string ⟨#[121]⟩, .int .i64 31536000000, .string ⟨#[119]⟩, .int .i64 604800000, .string ⟨#[100]⟩, .int .i64 86400000, .string ⟨#[104]⟩, .int .i64 3600000, .string ⟨#[109]⟩, .int .i64 60000, .string ⟨#[115]⟩, .int .i64 1000, .string ⟨#[109, 115]⟩, .int .i64 1]
  let h1 := put h0 1 #[.iface 119 (.agg #[.pointer (some ⟨8, 24, none⟩)])]
  let h2 := put h1 2 (Lib.pow10Tab.map fun z => Value.int .u64 z).toArray
  let h3 := put h2 3 (Lib.firstTab.map fun z => Value.int .u8 z).toArray
  let h4 := put h3 4 ((List.range 16).flatMap fun i => [Value.int .u8 (Lib.accLo i), Value.int .u8 (Lib.accHi i)]).toArray
  let h5 := put h4 5 #[.int .u8 0, .int .u8 1, .int .u8 28, .int .u8 2, .int .u8 29, .int .u8 14, .int .u8 24, .int .u8 3, .int .u8 30, .int .u8 22, .int .u8 20, .int .u8 15, .int .u8 25, .int .u8 17, .int .u8 4, .int .u8 8, .int .u8 31, .int .u8 27, .int .u8 13, .int .u8 23, .int .u8 21, .int .u8 19, .int .u8 16, .int .u8 7, .int .u8 26, .int .u8 12, .int .u8 18, .int .u8 6, .int .u8 11, .int .u8 5, .int .u8 10, .int .u8 9]
  let h6 := put h5 6 #[.int .u8 0, .int .u8 1, .int .u8 56, .int .u8 2, .int .u8 57, .int .u8 49, .int .u8 28, .int .u8 3, .int .u8 61, .int .u8 58, .int .u8 42, .int .u8 50, .int .u8 38, .int .u8 29, .int .u8 17, .int .u8 4, .int .u8 62, .int .u8 47, .int .u8 59, .int .u8 36, .int .u8 45, .int .u8 43, .int .u8 51, .int .u8 22, .int .u8 53, .int .u8 39, .int .u8 33, .int .u8 30, .int .u8 24, .int .u8 18, .int .u8 12, .int .u8 5, .int .u8 63, .int .u8 55, .int .u8 48, .int .u8 27, .int .u8 60, .int .u8 41, .int .u8 37, .int .u8 16, .int .u8 46, .int .u8 35, .int .u8 44, .int .u8 21, .int .u8 52, .int .u8 32, .int .u8 23, .int .u8 11, .int .u8 54, .int .u8 26, .int .u8 40, .int .u8 15, .int .u8 34, .int .u8 20, .int .u8 31, .int .u8 10, .int .u8 25, .int .u8 14, .int .u8 19, .int .u8 9, .int .u8 13, .int .u8 8, .int .u8 7, .int .u8 6]
  { w0 with heap := h6 }
theorem laid_met (os : Os) (args : Array Value) : laidMetH Tryd.prog LL ((laidWorld os).forCall (fun _ _ => 0) ⟨#[], args, []⟩).memory :=
  laidMetH_of_parts (LaidIn.of_run (l := LL.filter fun x => x.2.handleName?.isNone) [0, 1, 2, 3, 4, 5, 6] 8 (by kernel_rfl) (by kernel_rfl) (by kernel_rfl) (by kernel_rfl)).met (by kernel_rfl)
end Go.Proofs.YtmgbnnanophehaaDoor.Laid
