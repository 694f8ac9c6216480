/- From what the rows list (laid) to what the contracts ask; a world that meets the list. -/
import Derived.Test.YtlelcmkbcejjkaaDoorRows
import Derived.Test.YtlelcmkbcejjkaaDoorLabV
import Derived.LaidSub
import Derived.LaidHandle
import Derived.Lib.LaidIn
import Derived.Lib.LaidTab
import Derived.Lib.LaidU8
import Derived.Lib.LaidU8T
import Derived.RowKitTokens
import Derived.Stop.Joined
namespace Go.Proofs.YtlelcmkbcejjkaaDoor.Laid
open Go.ChangeShapes Go.WideShapes Go.RowKit Go.Lib Go.Proofs.YtlelcmkbcejjkaaDoor.L
set_option linter.unusedVariables false
abbrev LL : List (String × DataW Unit) := Rows.storeAnyRow.laid
theorem et : Tryd.prog.globalNamed "errors.errorType" = some 0 := by kernel_rfl
theorem rt : (Tryd.prog.cutTypes.find? (·.1 == "internal/reflectlite.rtype")).map (·.2) = some 154 := by kernel_rfl
theorem oneRow : ((List.range Tryd.prog.types.size).filter fun t => Tryd.prog.rowNamed t [101, 114, 114, 111, 114]) = [24] := by kernel_rfl
theorem errTab {W : World} (h : laidMetH Tryd.prog LL W) : Err.ErrTab W := by
  have h' := (laidMetH_iff.1 h).2
  obtain ⟨name, u, ty, e1, e2, e3, e4, e5⟩ := h' ("errors.errorType", Rows.laid_errors_errorType) (List.mem_filter.2 ⟨.tail _ (.head _), rfl⟩)
  have en : name = [101, 114, 114, 111, 114] := (Option.some.inj e1).symm
  subst en
  obtain rfl := Option.some.inj (rt.symm.trans e2)
  have hm : ty ∈ (List.range Tryd.prog.types.size).filter fun t => Tryd.prog.rowNamed t [101, 114, 114, 111, 114] := List.mem_filter.2 ⟨List.mem_range.2 e3, e4⟩
  rw [oneRow] at hm
  obtain rfl := List.mem_singleton.1 hm
  have hh : typeHandle Tryd.prog 24 = .pointer (some ⟨5, 24, none⟩) := by kernel_rfl
  rw [hh] at e5
  unfold Err.ErrTab
  simpa using World.var?_cell et e5 0
theorem firstD : (Rows.laid_unicode_utf8_first : DataW Unit) = firstData := by kernel_rfl
theorem acceptD : (Rows.laid_unicode_utf8_acceptRanges : DataW Unit) = acceptData := by kernel_rfl
theorem u8Tab {W : World} (h : laidMetH Tryd.prog LL W) : Lib.Utf8Tabs 2 3 W := by
  have h3 := laidMet.reads (laidMetH_iff.1 h).1 (n := "unicode/utf8.first") (d := Rows.laid_unicode_utf8_first) (List.mem_filter.2 ⟨.tail _ (.tail _ (.head _)), rfl⟩)
  have h4 := laidMet.reads (laidMetH_iff.1 h).1 (n := "unicode/utf8.acceptRanges") (d := Rows.laid_unicode_utf8_acceptRanges) (List.mem_filter.2 ⟨.head _, rfl⟩)
  rw [firstD] at h3
  rw [acceptD] at h4
  exact utf8Tabs_of_readsT (U8Types.of196 Tryd.laysValid) ⟨by kernel_rfl, by kernel_rfl, by kernel_rfl, by kernel_rfl, by kernel_rfl, by kernel_rfl, by kernel_rfl⟩ h3 h4
theorem gl {W : World} (h : laidMetH Tryd.prog LL W) : GL W := ⟨u8Tab h, errTab h⟩

/-- A world that meets the list: the settled one, the listed variables holding what their initialisers lay. -/
noncomputable def laidWorld (os : Os) : World :=
  let w0 := World.holding Tryd.prog os ⟨#[], #[], []⟩
  let put (h : Array Obj) (g : Nat) (cs : Array Value) : Array Obj := h.modify g fun
    | .cells _ t frozen => .cells cs t frozen
    | o => o
  let h1 := put w0.heap 0 #[.iface 154 (.agg #[.pointer (some ⟨5, 24, none⟩)])]
  let h2 := put h1 2 (Lib.firstTab.map fun z => Value.int .u8 z).toArray
  let h3 := put h2 3 ((List.range 16).flatMap fun i => [Value.int .u8 (Lib.accLo i), Value.int .u8 (Lib.accHi i)]).toArray
  { w0 with heap := h3 }
theorem laid_met (os : Os) (args : Array Value) : laidMetH Tryd.prog LL ((laidWorld os).forCall (fun _ _ => 0) ⟨#[], args, []⟩).memory :=
  laidMetH_of_parts (LaidIn.of_run (l := LL.filter fun x => x.2.handleName?.isNone) [0, 2, 3] 8 (by kernel_rfl) (by kernel_rfl) (by kernel_rfl) (by kernel_rfl)).met (by kernel_rfl)
end Go.Proofs.YtlelcmkbcejjkaaDoor.Laid
