/- Two bit facts in the form that a walk leaves them. -/
import Derived.Laws.BitsLemmas
import Derived.Test.YtmdeehblmkpddaaDoorWMore
namespace Go.Proofs.YtmdeehblmkpddaaDoor.Hand
open Go.RowKit

theorem or128 (a : Int) : Go.bits .or .u8 128 (Go.bits .and .u8 (a % 256) 63) = 128 + a % 64 := by
  have h := Go.u8_and63 (x := a % 256) (by omega) (by omega)
  have h2 := Go.u8_or128 (y := a % 256 % 64) (by omega) (by omega)
  have h3 : a % 256 % 64 = a % 64 := by omega
  rw [h3] at h h2
  exact (congrArg (Go.bits .or .u8 128) h).trans h2

end Go.Proofs.YtmdeehblmkpddaaDoor.Hand
