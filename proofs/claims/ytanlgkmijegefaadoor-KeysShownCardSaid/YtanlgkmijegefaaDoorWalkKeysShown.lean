/- KeysShown's walk, in the row's shape. -/
import Derived.Test.YtanlgkmijegefaaDoorPureKeysShown
namespace Go.Proofs.YtanlgkmijegefaaDoor.Hand
open Go.RowKit
theorem KeysShown_walk (a0 : Int) (w0 : (Lit.int .i64 a0).wf = true) (w : World) (HT : Tab w) : Calls Tryd.prog 4 #[.int .i64 a0] w fun e w' => e = .returned (.bool true) ∧ Below w.heap.size w w' :=
  PKeysShown.whispererlaw08_KeysShown.walk Pure.KeysShown a0 w HT w0
end Go.Proofs.YtanlgkmijegefaaDoor.Hand
