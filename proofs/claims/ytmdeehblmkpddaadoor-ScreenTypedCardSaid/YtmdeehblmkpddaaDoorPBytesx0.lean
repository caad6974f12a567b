-- Printed by a changed copy of the kit's print program that takes contracts proved by hand. Not trusted: Lean checks it.
import Derived.Test.YtmdeehblmkpddaaDoorProg
import Derived.Below
import Derived.Deep.Draws
import Derived.Deep.AppendLies
import Derived.Maps.AppendAt
import Derived.OwnWalk
import Derived.Laws.BytesArg
import Derived.Laws.MakeOwn
import Derived.Laws.OwnMore
import Derived.Deep.OwnRows
import Derived.Tactics
import Derived.Lib.ConvBytes
import Derived.Laws.Slices
import Derived.WalkKit
import Derived.KernelRfl
import Derived.RowKit3
import Derived.Deep.LoopGhost
import Derived.Deep.QuietTactic
import Derived.BigQuiet
import Derived.WideLaws
import Derived.Deep.DeepCutAuto
import Derived.Deep.CutBlock
import Derived.Deep.RegionHeld3
import Derived.Laws.Rows
import Derived.Lib.AppendStr
import Derived.ArgAppend
import Derived.Laws.IdiomCopy
import Derived.OrdersHeld
import Derived.Laws.BitsLemmas
import Derived.RowKit
import Derived.Test.YtmdeehblmkpddaaDoorHandBits
import Derived.Test.YtmdeehblmkpddaaDoorWWords
import Derived.Test.YtmdeehblmkpddaaDoorWLast
import Derived.Test.YtmdeehblmkpddaaDoorWTab
import Derived.Test.YtmdeehblmkpddaaDoorWFour
import Derived.Test.YtmdeehblmkpddaaDoorWQPut
import Derived.Test.YtmdeehblmkpddaaDoorWApart
import Derived.Test.YtmdeehblmkpddaaDoorWArr
import Derived.Test.YtmdeehblmkpddaaDoorWZeros
import Derived.Test.YtmdeehblmkpddaaDoorWFoot
import Derived.Test.YtmdeehblmkpddaaDoorWKept
import Derived.Test.YtmdeehblmkpddaaDoorWShare
import Derived.Test.YtmdeehblmkpddaaDoorWN
import Derived.Test.YtmdeehblmkpddaaDoorWFootNe
import Derived.Test.YtmdeehblmkpddaaDoorWAt
import Derived.Test.YtmdeehblmkpddaaDoorWEqStruct
import Derived.Test.YtmdeehblmkpddaaDoorWRepsOne
import Derived.Test.YtmdeehblmkpddaaDoorWInv
import Derived.Test.YtmdeehblmkpddaaDoorWInvWords
import Derived.Test.YtmdeehblmkpddaaDoorWGuard
import Derived.Test.YtmdeehblmkpddaaDoorWNEv
import Derived.Test.YtmdeehblmkpddaaDoorWMore
namespace Go.Proofs.YtmdeehblmkpddaaDoor.PBytes
open Go.RowKit Go.Proofs.YtmdeehblmkpddaaDoorW.PrintWords Go.Proofs.YtmdeehblmkpddaaDoorW.PrintLast Go.Proofs.YtmdeehblmkpddaaDoorW.PrintMore
attribute [local go_sem] max2_int min2_int max_two min_two max_three min_three max_four min_four   -- for this text's walks alone
set_option linter.unusedVariables false
set_option linter.unusedSimpArgs false



def errW : Option Int → Value
  | none => .nilIface
  | some c => .iface 0 (.int .i64 c)
theorem errW_none : errW none = .nilIface := rfl
theorem errW_some (c : Int) : errW (some c) = .iface 0 (.int .i64 c) := rfl

theorem info5 : (Tryd.prog.info? 5).map (fun i => (i.zero, i.size, i.bytes)) = some (some (.int .u8 0), 1, 1) := by kernel_rfl
-- the values' own types

end Go.Proofs.YtmdeehblmkpddaaDoor.PBytes
