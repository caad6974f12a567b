-- Printed by a changed copy of the kit's print program that takes contracts proved by hand. Not trusted: Lean checks it.
import Derived.Test.YtanlgkmijegefaaDoorProg
import Derived.Below
import Derived.Deep.Draws
import Derived.Deep.AppendLies
import Derived.Maps.AppendAt
import Derived.OwnWalk
import Derived.Laws.BytesArg
import Derived.Laws.MakeOwn
import Derived.Laws.OwnMore
import Derived.Deep.OwnRows
import Derived.Tactics
import Derived.Lib.ConvBytes
import Derived.Laws.Slices
import Derived.WalkKit
import Derived.KernelRfl
import Derived.RowKit3
import Derived.Deep.LoopGhost
import Derived.Deep.QuietTactic
import Derived.BigQuiet
import Derived.WideLaws
import Derived.Deep.DeepCutAuto
import Derived.Deep.CutBlock
import Derived.Deep.RegionHeld3
import Derived.Laws.Rows
import Derived.Lib.AppendStr
import Derived.ArgAppend
import Derived.Laws.IdiomCopy
import Derived.OrdersHeld
import Derived.Laws.BitsLemmas
import Derived.RowKit
import Derived.Test.YtanlgkmijegefaaDoorHandUtf
import Derived.Test.YtanlgkmijegefaaDoorWWords
import Derived.Test.YtanlgkmijegefaaDoorWLast
import Derived.Test.YtanlgkmijegefaaDoorWTab
import Derived.Test.YtanlgkmijegefaaDoorWFour
import Derived.Test.YtanlgkmijegefaaDoorWQPut
import Derived.Test.YtanlgkmijegefaaDoorWApart
import Derived.Test.YtanlgkmijegefaaDoorWArr
import Derived.Test.YtanlgkmijegefaaDoorWZeros
import Derived.Test.YtanlgkmijegefaaDoorWFoot
import Derived.Test.YtanlgkmijegefaaDoorWKept
import Derived.Test.YtanlgkmijegefaaDoorWShare
import Derived.Test.YtanlgkmijegefaaDoorWN
import Derived.Test.YtanlgkmijegefaaDoorWFootNe
import Derived.Test.YtanlgkmijegefaaDoorWAt
import Derived.Test.YtanlgkmijegefaaDoorWEqStruct
import Derived.Test.YtanlgkmijegefaaDoorWRepsOne
import Derived.Test.YtanlgkmijegefaaDoorWInv
import Derived.Test.YtanlgkmijegefaaDoorWInvWords
import Derived.Test.YtanlgkmijegefaaDoorWGuard
import Derived.Test.YtanlgkmijegefaaDoorWNEv
import Derived.Test.YtanlgkmijegefaaDoorWMore
namespace Go.Proofs.YtanlgkmijegefaaDoor.PNext
open Go.RowKit Go.Proofs.YtanlgkmijegefaaDoorW.PrintWords Go.Proofs.YtanlgkmijegefaaDoorW.PrintLast Go.Proofs.YtanlgkmijegefaaDoorW.PrintMore
attribute [local go_sem] max2_int min2_int max_two min_two max_three min_three max_four min_four   -- for this text's walks alone
set_option linter.unusedVariables false
set_option linter.unusedSimpArgs false



def errW : Option Int → Value
  | none => .nilIface
  | some c => .iface 0 (.int .i64 c)
theorem errW_none : errW none = .nilIface := rfl
theorem errW_some (c : Int) : errW (some c) = .iface 0 (.int .i64 c) := rfl

theorem info5 : (Tryd.prog.info? 5).map (fun i => (i.zero, i.size, i.bytes)) = some (some (.int .u8 0), 1, 1) := by kernel_rfl
-- the values' own types

end Go.Proofs.YtanlgkmijegefaaDoor.PNext
