/- What the rows of chapter 13 list. -/
import Derived.Test.YtoeaidhkohfaoaaDoorHandRender
import Derived.Test.YtoeaidhkohfaoaaDoorHandU8
namespace Go.Proofs.YtoeaidhkohfaoaaDoor.Hand
open Go.RowKit
set_option linter.unusedVariables false
set_option maxRecDepth 100000

theorem powType : (Tryd.prog.globals[3]?).map (·.type) = some 91 := by kernel_rfl
theorem cells64 : Tryd.prog.cellsOf 72 = 1 := by kernel_rfl
theorem cells20 : Tryd.prog.cellsOf 91 = 20 := by kernel_rfl
theorem TabV.below {w W : World} (h : TabV w) (hb : Below w.heap.size w W) : TabV W := ⟨h.u8.below hb, Joins.tab_stays gPow h.pow hb (Nat.le_refl _)⟩
theorem tabV_of {W : World} {l : List (String × DataW Unit)} (h : laidMet Tryd.prog l W) (h1 : ("unicode/utf8.first", Rows.laid_unicode_utf8_first) ∈ l) (h2 : ("unicode/utf8.acceptRanges", Rows.laid_unicode_utf8_acceptRanges) ∈ l) (h3 : ("internal/strconv.uint64pow10", Rows.laid_internal_strconv_uint64pow10) ∈ l) : TabV W :=
  ⟨u8_of_laid h h1 h2, tab_of_reads gPow powType Tryd.underlying91 Tryd.underlying72 cells64 cells20 (reads_of_laid h h3)⟩
theorem tab_of_viewRenders {W : World} (h : laidMetH Tryd.prog Rows.viewRendersRow.laid W) (hs : W.ShapedOpen Tryd.prog) : TabV W := tabV_of h (by simp [Rows.viewRendersRow]) (by simp [Rows.viewRendersRow]) (by simp [Rows.viewRendersRow])
theorem tab_of_viewHides {W : World} (h : laidMetH Tryd.prog Rows.viewHidesRow.laid W) (hs : W.ShapedOpen Tryd.prog) : TabV W := tabV_of h (by simp [Rows.viewHidesRow]) (by simp [Rows.viewHidesRow]) (by simp [Rows.viewHidesRow])
theorem tab_of_viewPlaces {W : World} (h : laidMetH Tryd.prog Rows.viewPlacesRow.laid W) (hs : W.ShapedOpen Tryd.prog) : TabV W := tabV_of h (by simp [Rows.viewPlacesRow]) (by simp [Rows.viewPlacesRow]) (by simp [Rows.viewPlacesRow])
theorem tab_of_viewChecks {W : World} (h : laidMetH Tryd.prog Rows.viewChecksRow.laid W) (hs : W.ShapedOpen Tryd.prog) : TabV W := tabV_of h (by simp [Rows.viewChecksRow]) (by simp [Rows.viewChecksRow]) (by simp [Rows.viewChecksRow])
theorem tab_of_viewSigns {W : World} (h : laidMetH Tryd.prog Rows.viewSignsRow.laid W) (hs : W.ShapedOpen Tryd.prog) : TabV W := tabV_of h (by simp [Rows.viewSignsRow]) (by simp [Rows.viewSignsRow]) (by simp [Rows.viewSignsRow])

end Go.Proofs.YtoeaidhkohfaoaaDoor.Hand
