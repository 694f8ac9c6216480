/- Functions of the program as Lean functions, and the contracts by which the Go code comes to their answers, for every argument that can be read. Written by a program of this session over the print of the kit. -/
import Derived.Test.YtmgbnnanophehaaDoorProg
import Derived.Below
import Derived.Deep.Draws
import Derived.Deep.AppendLies
import Derived.Maps.AppendAt
import Derived.OwnWalk
import Derived.Laws.BytesArg
import Derived.Laws.MakeOwn
import Derived.Laws.OwnMore
import Derived.Deep.OwnRows
import Derived.Tactics
import Derived.Lib.ConvBytes
import Derived.Laws.Slices
import Derived.WalkKit
import Derived.KernelRfl
import Derived.RowKit3
import Derived.Deep.LoopGhost
import Derived.Deep.QuietTactic
import Derived.BigQuiet
import Derived.WideLaws
import Derived.Deep.DeepCutAuto
import Derived.Deep.CutBlock
import Derived.Deep.RegionHeld3
import Derived.Laws.Rows
import Derived.Lib.AppendStr
import Derived.ArgAppend
import Derived.Laws.IdiomCopy
import Derived.OrdersHeld
import Derived.Laws.BitsLemmas
import Derived.RowKit
import Derived.Test.YtmgbnnanophehaaDoorWWords
import Derived.Test.YtmgbnnanophehaaDoorWLast
import Derived.Test.YtmgbnnanophehaaDoorWTab
import Derived.Test.YtmgbnnanophehaaDoorWFour
import Derived.Test.YtmgbnnanophehaaDoorWQPut
import Derived.Test.YtmgbnnanophehaaDoorWApart
import Derived.Test.YtmgbnnanophehaaDoorWArr
import Derived.Test.YtmgbnnanophehaaDoorWZeros
import Derived.Test.YtmgbnnanophehaaDoorWFoot
import Derived.Test.YtmgbnnanophehaaDoorWKept
import Derived.Test.YtmgbnnanophehaaDoorWShare
import Derived.Test.YtmgbnnanophehaaDoorWN
import Derived.Test.YtmgbnnanophehaaDoorWFootNe
import Derived.Test.YtmgbnnanophehaaDoorWAt
import Derived.Test.YtmgbnnanophehaaDoorWEqStruct
import Derived.Test.YtmgbnnanophehaaDoorWRepsOne
import Derived.Test.YtmgbnnanophehaaDoorWInv
import Derived.Test.YtmgbnnanophehaaDoorWInvWords
import Derived.Test.YtmgbnnanophehaaDoorWGuard
import Derived.Test.YtmgbnnanophehaaDoorWNEv
import Derived.Test.YtmgbnnanophehaaDoorWMore
namespace Go.Proofs.YtmgbnnanophehaaDoor.S
open Go.RowKit Go.Proofs.YtmgbnnanophehaaDoorW.PrintWords Go.Proofs.YtmgbnnanophehaaDoorW.PrintLast Go.Proofs.YtmgbnnanophehaaDoorW.PrintMore
attribute [local go_sem] max2_int min2_int max_two min_two max_three min_three max_four min_four   -- for this text's walks alone
set_option linter.unusedVariables false
set_option linter.unusedSimpArgs false



def errW : Option Int → Value
  | none => .nilIface
  | some c => .iface 53 (.int .i64 c)
theorem errW_none : errW none = .nilIface := rfl
theorem errW_some (c : Int) : errW (some c) = .iface 53 (.int .i64 c) := rfl

theorem info2 : (Tryd.prog.info? 2).map (fun i => (i.zero, i.size, i.bytes)) = some (some (.int .i64 0), 1, 8) := by kernel_rfl
theorem info9 : (Tryd.prog.info? 9).map (fun i => (i.zero, i.size, i.bytes)) = some (some (.string ⟨#[]⟩), 1, 16) := by kernel_rfl
-- the values' own types

end Go.Proofs.YtmgbnnanophehaaDoor.S
