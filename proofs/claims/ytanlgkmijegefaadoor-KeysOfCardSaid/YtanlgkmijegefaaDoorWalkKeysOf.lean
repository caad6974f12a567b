/- KeysOf's walk, in the row's shape. -/
import Derived.Test.YtanlgkmijegefaaDoorPureKeysOf
namespace Go.Proofs.YtanlgkmijegefaaDoor.Hand
open Go.RowKit
set_option linter.unusedVariables false
theorem KeysOf_walk (a0 a1_0 a1_1 : Int) (w0 : (Lit.int .i64 a0).wf = true) (w1_0 : (Lit.int .i64 a1_0).wf = true) (w1_1 : (Lit.int .i64 a1_1).wf = true) (w : World) (HT : Tab w) :
    Calls Tryd.prog 6 #[.int .i64 a0, .agg #[.int .i64 a1_0, .int .i64 a1_1]] w fun e w' => e = .returned (.bool true) ∧ Below w.heap.size w w' :=
  PKeysOf.whispererlaw08_KeysOf.calls 40 a0 a1_0 a1_1 true w HT (Pure.KeysOf a0 a1_0 a1_1 w0)
end Go.Proofs.YtanlgkmijegefaaDoor.Hand
