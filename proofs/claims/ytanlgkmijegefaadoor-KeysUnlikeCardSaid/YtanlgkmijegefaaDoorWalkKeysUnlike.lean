/- KeysUnlike's walk, in the row's shape. -/
import Derived.Test.YtanlgkmijegefaaDoorPureKeysUnlike
namespace Go.Proofs.YtanlgkmijegefaaDoor.Hand
open Go.RowKit
set_option linter.unusedVariables false
theorem KeysUnlike_walk (a0_0 a0_1 a1_0 a1_1 : Int) (w0_0 : (Lit.int .i64 a0_0).wf = true) (w0_1 : (Lit.int .i64 a0_1).wf = true) (w1_0 : (Lit.int .i64 a1_0).wf = true) (w1_1 : (Lit.int .i64 a1_1).wf = true) (w : World) (HT : Tab w) :
    Calls Tryd.prog 5 #[.agg #[.int .i64 a0_0, .int .i64 a0_1], .agg #[.int .i64 a1_0, .int .i64 a1_1]] w fun e w' => e = .returned (.bool true) ∧ Below w.heap.size w w' :=
  PKeysUnlike.whispererlaw08_KeysUnlike.calls 10 a0_0 a0_1 a1_0 a1_1 true w HT (Pure.KeysUnlike a0_0 a0_1 a1_0 a1_1 w0_1 w1_1)
end Go.Proofs.YtanlgkmijegefaaDoor.Hand
