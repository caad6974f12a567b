/- The tables of KeysBack. -/
import Derived.Test.YtanlgkmijegefaaDoorHandU8
import Derived.Test.YtanlgkmijegefaaDoorHandTabOf08
namespace Go.Proofs.YtanlgkmijegefaaDoor.Hand
open Go.RowKit

structure TabU (w : World) : Prop where
  toTab : Tab w
  u8 : U8In w
theorem TabU.below {w W : World} (h : TabU w) (hb : Below w.heap.size w W) : TabU W := ⟨h.toTab.below hb, h.u8.below hb⟩
theorem tab_of_keysBackU {W : World} (h : laidMetH Tryd.prog Rows.keysBackRow.laid W) (hs : W.ShapedOpen Tryd.prog) : TabU W :=
  ⟨tab_of_keysBack h hs, u8_of_laid h (by simp [Rows.keysBackRow]) (by simp [Rows.keysBackRow])⟩

end Go.Proofs.YtanlgkmijegefaaDoor.Hand
