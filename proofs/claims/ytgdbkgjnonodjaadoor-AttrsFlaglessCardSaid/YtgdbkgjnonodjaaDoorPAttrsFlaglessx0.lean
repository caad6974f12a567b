-- Printed by a changed copy of the kit's print program that takes contracts proved by hand. Not trusted: Lean checks it.
import Derived.Test.YtgdbkgjnonodjaaDoorProg
import Derived.Below
import Derived.Deep.Draws
import Derived.Deep.AppendLies
import Derived.Maps.AppendAt
import Derived.OwnWalk
import Derived.Laws.BytesArg
import Derived.Laws.MakeOwn
import Derived.Laws.OwnMore
import Derived.Deep.OwnRows
import Derived.Tactics
import Derived.Lib.ConvBytes
import Derived.Laws.Slices
import Derived.WalkKit
import Derived.KernelRfl
import Derived.RowKit3
import Derived.Deep.LoopGhost
import Derived.Deep.QuietTactic
import Derived.BigQuiet
import Derived.WideLaws
import Derived.Deep.DeepCutAuto
import Derived.Deep.CutBlock
import Derived.Deep.RegionHeld3
import Derived.Laws.Rows
import Derived.Lib.AppendStr
import Derived.ArgAppend
import Derived.Laws.IdiomCopy
import Derived.OrdersHeld
import Derived.Laws.BitsLemmas
import Derived.RowKit
import Derived.Test.YtgdbkgjnonodjaaDoorHandAttrs06
import Derived.Test.YtgdbkgjnonodjaaDoorHandWords06
import Derived.Test.YtgdbkgjnonodjaaDoorWWords
import Derived.Test.YtgdbkgjnonodjaaDoorWLast
import Derived.Test.YtgdbkgjnonodjaaDoorWTab
import Derived.Test.YtgdbkgjnonodjaaDoorWFour
import Derived.Test.YtgdbkgjnonodjaaDoorWQPut
import Derived.Test.YtgdbkgjnonodjaaDoorWApart
import Derived.Test.YtgdbkgjnonodjaaDoorWArr
import Derived.Test.YtgdbkgjnonodjaaDoorWZeros
import Derived.Test.YtgdbkgjnonodjaaDoorWFoot
import Derived.Test.YtgdbkgjnonodjaaDoorWKept
import Derived.Test.YtgdbkgjnonodjaaDoorWShare
import Derived.Test.YtgdbkgjnonodjaaDoorWN
import Derived.Test.YtgdbkgjnonodjaaDoorWFootNe
import Derived.Test.YtgdbkgjnonodjaaDoorWAt
import Derived.Test.YtgdbkgjnonodjaaDoorWEqStruct
import Derived.Test.YtgdbkgjnonodjaaDoorWRepsOne
import Derived.Test.YtgdbkgjnonodjaaDoorWInv
import Derived.Test.YtgdbkgjnonodjaaDoorWInvWords
import Derived.Test.YtgdbkgjnonodjaaDoorWGuard
import Derived.Test.YtgdbkgjnonodjaaDoorWNEv
import Derived.Test.YtgdbkgjnonodjaaDoorWMore
namespace Go.Proofs.YtgdbkgjnonodjaaDoor.PAttrsFlagless
open Go.RowKit Go.Proofs.YtgdbkgjnonodjaaDoorW.PrintWords Go.Proofs.YtgdbkgjnonodjaaDoorW.PrintLast Go.Proofs.YtgdbkgjnonodjaaDoorW.PrintMore
attribute [local go_sem] max2_int min2_int max_two min_two max_three min_three max_four min_four   -- for this text's walks alone
set_option linter.unusedVariables false
set_option linter.unusedSimpArgs false



def errW : Option Int → Value
  | none => .nilIface
  | some c => .iface 0 (.int .i64 c)
theorem errW_none : errW none = .nilIface := rfl
theorem errW_some (c : Int) : errW (some c) = .iface 0 (.int .i64 c) := rfl

-- the values' own types

end Go.Proofs.YtgdbkgjnonodjaaDoor.PAttrsFlagless
