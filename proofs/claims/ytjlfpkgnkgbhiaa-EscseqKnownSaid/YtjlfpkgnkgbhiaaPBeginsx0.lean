-- Printed by a changed copy of the kit's print program that takes contracts proved by hand. Not trusted: Lean checks it.
import Derived.Test.YtjlfpkgnkgbhiaaProg
import Derived.Below
import Derived.Deep.Draws
import Derived.Deep.AppendLies
import Derived.Maps.AppendAt
import Derived.OwnWalk
import Derived.Laws.BytesArg
import Derived.Laws.MakeOwn
import Derived.Laws.OwnMore
import Derived.Deep.OwnRows
import Derived.Tactics
import Derived.Lib.ConvBytes
import Derived.Laws.Slices
import Derived.WalkKit
import Derived.KernelRfl
import Derived.RowKit3
import Derived.Deep.LoopGhost
import Derived.Deep.QuietTactic
import Derived.BigQuiet
import Derived.WideLaws
import Derived.Deep.DeepCutAuto
import Derived.Deep.CutBlock
import Derived.Deep.RegionHeld3
import Derived.Laws.Rows
import Derived.Lib.AppendStr
import Derived.ArgAppend
import Derived.Laws.IdiomCopy
import Derived.OrdersHeld
import Derived.Laws.BitsLemmas
import Derived.RowKit
import Derived.Test.YtjlfpkgnkgbhiaaHandEscAlive
import Derived.Test.YtjlfpkgnkgbhiaaWWords
import Derived.Test.YtjlfpkgnkgbhiaaWLast
import Derived.Test.YtjlfpkgnkgbhiaaWTab
import Derived.Test.YtjlfpkgnkgbhiaaWFour
import Derived.Test.YtjlfpkgnkgbhiaaWQPut
import Derived.Test.YtjlfpkgnkgbhiaaWApart
import Derived.Test.YtjlfpkgnkgbhiaaWArr
import Derived.Test.YtjlfpkgnkgbhiaaWZeros
import Derived.Test.YtjlfpkgnkgbhiaaWFoot
import Derived.Test.YtjlfpkgnkgbhiaaWKept
import Derived.Test.YtjlfpkgnkgbhiaaWShare
import Derived.Test.YtjlfpkgnkgbhiaaWN
import Derived.Test.YtjlfpkgnkgbhiaaWFootNe
import Derived.Test.YtjlfpkgnkgbhiaaWAt
import Derived.Test.YtjlfpkgnkgbhiaaWEqStruct
import Derived.Test.YtjlfpkgnkgbhiaaWRepsOne
import Derived.Test.YtjlfpkgnkgbhiaaWInv
import Derived.Test.YtjlfpkgnkgbhiaaWInvWords
import Derived.Test.YtjlfpkgnkgbhiaaWGuard
import Derived.Test.YtjlfpkgnkgbhiaaWNEv
import Derived.Test.YtjlfpkgnkgbhiaaWMore
namespace Go.Proofs.Ytjlfpkgnkgbhiaa.PBegins
open Go.RowKit Go.Proofs.YtjlfpkgnkgbhiaaW.PrintWords Go.Proofs.YtjlfpkgnkgbhiaaW.PrintLast Go.Proofs.YtjlfpkgnkgbhiaaW.PrintMore
attribute [local go_sem] max2_int min2_int max_two min_two max_three min_three max_four min_four   -- for this text's walks alone
set_option linter.unusedVariables false
set_option linter.unusedSimpArgs false



def errW : Option Int → Value
  | none => .nilIface
  | some c => .iface 0 (.int .i64 c)
theorem errW_none : errW none = .nilIface := rfl
theorem errW_some (c : Int) : errW (some c) = .iface 0 (.int .i64 c) := rfl

-- the values' own types

end Go.Proofs.Ytjlfpkgnkgbhiaa.PBegins
