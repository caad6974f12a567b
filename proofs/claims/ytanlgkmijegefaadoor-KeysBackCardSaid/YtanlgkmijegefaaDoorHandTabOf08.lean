/- What the rows of chapter 8 list, as the contracts ask for it. -/
import Derived.Test.YtanlgkmijegefaaDoorHandKeyTab
import Derived.Test.YtanlgkmijegefaaDoorHandLaid
import Derived.Test.YtanlgkmijegefaaDoorRows
import Derived.Shelf.Vars
namespace Go.Proofs.YtanlgkmijegefaaDoor.Hand
open Go.RowKit
set_option linter.unusedVariables false
set_option maxRecDepth 100000

theorem nmType : (Tryd.prog.globals[0]?).map (·.type) = some 48 := by kernel_rfl
theorem nmName : Tryd.prog.globalNamed "whisperer/keys.names" = some 0 := by kernel_rfl
theorem cellsStr : Tryd.prog.cellsOf 9 = 1 := by kernel_rfl
theorem cells16 : Tryd.prog.cellsOf 48 = 16 := by kernel_rfl
theorem powType : (Tryd.prog.globals[6]?).map (·.type) = some 102 := by kernel_rfl
theorem cells64 : Tryd.prog.cellsOf 88 = 1 := by kernel_rfl
theorem cells20 : Tryd.prog.cellsOf 102 = 20 := by kernel_rfl
theorem esName : Tryd.prog.globalNamed "strconv.ErrSyntax" = some 4 := by kernel_rfl
theorem erName : Tryd.prog.globalNamed "strconv.ErrRange" = some 5 := by kernel_rfl
theorem esType : (Tryd.prog.globals[4]?).map (·.type) = some 54 := by kernel_rfl
theorem erType : (Tryd.prog.globals[5]?).map (·.type) = some 54 := by kernel_rfl

theorem tab_of {W : World} {l : List (String × DataW Unit)} (h : laidMet Tryd.prog l W) (hs : W.ShapedOpen Tryd.prog) (h1 : ("whisperer/keys.names", Rows.laid_whisperer_keys_names) ∈ l) (h2 : ("internal/strconv.uint64pow10", Rows.laid_internal_strconv_uint64pow10) ∈ l)
    (h3 : ("strconv.ErrSyntax", Rows.laid_strconv_ErrSyntax) ∈ l) (h4 : ("strconv.ErrRange", Rows.laid_strconv_ErrRange) ∈ l) : Tab W := by
  refine ⟨fun j hj => ?_, ?_, ?_, ?_, ?_⟩
  · refine strs_of_reads (zs := nameL) nmName nmType Tryd.underlying48 Tryd.underlying9 cellsStr cells16 (reads_of_laid h h1) j (nameL.getD j []) ?_
    rw [List.getD_eq_getElem?_getD]
    have : j < nameL.length := hj
    rw [List.getElem?_eq_getElem this]
    rfl
  · exact cell_of_shapedOpen_int (zero := #[.int .i64 0]) (t := 3) hs (of_decide_eq_true (by kernel_rfl)) (by kernel_rfl) rfl (by kernel_rfl) (by kernel_rfl) Tryd.underlying3
  · exact tab_of_reads gPow powType Tryd.underlying102 Tryd.underlying88 cells64 cells20 (reads_of_laid h h2)
  · exact iface_of_reads esName esType Tryd.underlying54 (reads_of_laid h h3)
  · exact iface_of_reads erName erType Tryd.underlying54 (reads_of_laid h h4)

theorem tab_of_keysShown {W : World} (h : laidMetH Tryd.prog Rows.keysShownRow.laid W) (hs : W.ShapedOpen Tryd.prog) : Tab W := tab_of h hs (by simp [Rows.keysShownRow]) (by simp [Rows.keysShownRow]) (by simp [Rows.keysShownRow]) (by simp [Rows.keysShownRow])
theorem tab_of_keysUnlike {W : World} (h : laidMetH Tryd.prog Rows.keysUnlikeRow.laid W) (hs : W.ShapedOpen Tryd.prog) : Tab W := tab_of h hs (by simp [Rows.keysUnlikeRow]) (by simp [Rows.keysUnlikeRow]) (by simp [Rows.keysUnlikeRow]) (by simp [Rows.keysUnlikeRow])
theorem tab_of_keysOf {W : World} (h : laidMetH Tryd.prog Rows.keysOfRow.laid W) (hs : W.ShapedOpen Tryd.prog) : Tab W := tab_of h hs (by simp [Rows.keysOfRow]) (by simp [Rows.keysOfRow]) (by simp [Rows.keysOfRow]) (by simp [Rows.keysOfRow])
theorem tab_of_keysTexts {W : World} (h : laidMetH Tryd.prog Rows.keysTextsRow.laid W) (hs : W.ShapedOpen Tryd.prog) : Tab W := tab_of h hs (by simp [Rows.keysTextsRow]) (by simp [Rows.keysTextsRow]) (by simp [Rows.keysTextsRow]) (by simp [Rows.keysTextsRow])
theorem tab_of_keysBack {W : World} (h : laidMetH Tryd.prog Rows.keysBackRow.laid W) (hs : W.ShapedOpen Tryd.prog) : Tab W := tab_of h hs (by simp [Rows.keysBackRow]) (by simp [Rows.keysBackRow]) (by simp [Rows.keysBackRow]) (by simp [Rows.keysBackRow])

end Go.Proofs.YtanlgkmijegefaaDoor.Hand
