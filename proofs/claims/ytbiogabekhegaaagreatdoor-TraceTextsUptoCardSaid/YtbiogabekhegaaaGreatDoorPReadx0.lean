-- Printed by a changed copy of the kit's print program that takes contracts proved by hand. Not trusted: Lean checks it.
import Derived.Test.YtbiogabekhegaaaGreatDoorProg
import Derived.Below
import Derived.Deep.Draws
import Derived.Deep.AppendLies
import Derived.Maps.AppendAt
import Derived.OwnWalk
import Derived.Laws.BytesArg
import Derived.Laws.MakeOwn
import Derived.Laws.OwnMore
import Derived.Deep.OwnRows
import Derived.Tactics
import Derived.Lib.ConvBytes
import Derived.Laws.Slices
import Derived.WalkKit
import Derived.KernelRfl
import Derived.RowKit3
import Derived.Deep.LoopGhost
import Derived.Deep.QuietTactic
import Derived.BigQuiet
import Derived.WideLaws
import Derived.Deep.DeepCutAuto
import Derived.Deep.CutBlock
import Derived.Deep.RegionHeld3
import Derived.Laws.Rows
import Derived.Lib.AppendStr
import Derived.ArgAppend
import Derived.Laws.IdiomCopy
import Derived.OrdersHeld
import Derived.Laws.BitsLemmas
import Derived.RowKit
import Derived.Test.YtbiogabekhegaaaGreatDoorHandPlain
import Derived.Test.YtbiogabekhegaaaGreatDoorPCutx1
import Derived.Test.YtbiogabekhegaaaGreatDoorPNumberx1
import Derived.Test.YtbiogabekhegaaaGreatDoorPDecimalx1
import Derived.Test.YtbiogabekhegaaaGreatDoorWWords
import Derived.Test.YtbiogabekhegaaaGreatDoorWLast
import Derived.Test.YtbiogabekhegaaaGreatDoorWTab
import Derived.Test.YtbiogabekhegaaaGreatDoorWEqStruct
import Derived.Test.YtbiogabekhegaaaGreatDoorWRepsOne
import Derived.Test.YtbiogabekhegaaaGreatDoorWMore
namespace Go.Proofs.YtbiogabekhegaaaGreatDoor.PRead
set_option linter.unusedVariables false
open Go.RowKit Go.Proofs.YtbiogabekhegaaaGreatDoorW.PrintWords Go.Proofs.YtbiogabekhegaaaGreatDoorW.PrintLast Go.Proofs.YtbiogabekhegaaaGreatDoorW.PrintMore
attribute [local go_sem] max2_int min2_int max_two min_two max_three min_three max_four min_four   -- for this text's walks alone
set_option linter.unusedVariables false
set_option linter.unusedSimpArgs false



def errW : Option Int → Value
  | none => .nilIface
  | some c => .iface 0 (.int .i64 c)
theorem errW_none : errW none = .nilIface := rfl
theorem errW_some (c : Int) : errW (some c) = .iface 0 (.int .i64 c) := rfl

theorem info9 : (Tryz.prog.info? 9).map (fun i => (i.zero, i.size, i.bytes)) = some (some (.string ⟨#[]⟩), 1, 16) := by kernel_rfl
-- the values' own types

end Go.Proofs.YtbiogabekhegaaaGreatDoor.PRead
