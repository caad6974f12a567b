/- What the rows of chapter 6 list, as the contracts ask for it. -/
import Derived.Test.YtgdbkgjnonodjaaDoorHandAttrs06
import Derived.Test.YtgdbkgjnonodjaaDoorHandLaid
import Derived.Test.YtgdbkgjnonodjaaDoorRows
import Derived.Shelf.Vars
namespace Go.Proofs.YtgdbkgjnonodjaaDoor.Hand
open Go.RowKit
set_option linter.unusedVariables false
set_option maxRecDepth 100000

theorem nmType : (Tryd.prog.globals[0]?).map (·.type) = some 57 := by kernel_rfl
theorem nmName : Tryd.prog.globalNamed "whisperer/attrs.names" = some 0 := by kernel_rfl
theorem cellsStr : Tryd.prog.cellsOf 9 = 1 := by kernel_rfl
theorem cells7 : Tryd.prog.cellsOf 57 = 7 := by kernel_rfl
theorem powType : (Tryd.prog.globals[3]?).map (·.type) = some 104 := by kernel_rfl
theorem cells64 : Tryd.prog.cellsOf 49 = 1 := by kernel_rfl
theorem cells20 : Tryd.prog.cellsOf 104 = 20 := by kernel_rfl
theorem tzType : (Tryd.prog.globals[8]?).map (·.type) = some 122 := by kernel_rfl
theorem tzName : Tryd.prog.globalNamed "math/bits.deBruijn64tab" = some 8 := by kernel_rfl
theorem cells8 : Tryd.prog.cellsOf 5 = 1 := by kernel_rfl
theorem cells64t : Tryd.prog.cellsOf 122 = 64 := by kernel_rfl
theorem esName : Tryd.prog.globalNamed "strconv.ErrSyntax" = some 1 := by kernel_rfl
theorem erName : Tryd.prog.globalNamed "strconv.ErrRange" = some 2 := by kernel_rfl
theorem esType : (Tryd.prog.globals[1]?).map (·.type) = some 51 := by kernel_rfl
theorem erType : (Tryd.prog.globals[2]?).map (·.type) = some 51 := by kernel_rfl
def tzL : List Int := [0,1,56,2,57,49,28,3,61,58,42,50,38,29,17,4,62,47,59,36,45,43,51,22,53,39,33,30,24,18,12,5,63,55,48,27,60,41,37,16,46,35,44,21,52,32,23,11,54,26,40,15,34,20,31,10,25,14,19,9,13,8,7,6]

theorem tab_of {W : World} {l : List (String × DataW Unit)} (h : laidMet Tryd.prog l W) (hs : W.ShapedOpen Tryd.prog) (h1 : ("whisperer/attrs.names", Rows.laid_whisperer_attrs_names) ∈ l) (h2 : ("internal/strconv.uint64pow10", Rows.laid_internal_strconv_uint64pow10) ∈ l)
    (h3 : ("strconv.ErrSyntax", Rows.laid_strconv_ErrSyntax) ∈ l) (h4 : ("strconv.ErrRange", Rows.laid_strconv_ErrRange) ∈ l) (h5 : ("math/bits.deBruijn64tab", Rows.laid_math_bits_deBruijn64tab) ∈ l) : TabA W := by
  refine ⟨⟨fun j hj => ?_, ?_, ?_⟩, ?_, ?_, ?_⟩
  · refine strs_of_reads (zs := nameL) nmName nmType Tryd.underlying57 Tryd.underlying9 cellsStr cells7 (reads_of_laid h h1) j (nameL.getD j []) ?_
    rw [List.getD_eq_getElem?_getD]
    have : j < nameL.length := hj
    rw [List.getElem?_eq_getElem this]
    rfl
  · exact tab_of_reads gPow powType Tryd.underlying104 Tryd.underlying49 cells64 cells20 (reads_of_laid h h2)
  · have T : Lib.TabIs Tryd.prog W "math/bits.deBruijn64tab" .u8 tzL := tab_of_reads tzName tzType Tryd.underlying122 Tryd.underlying5 cells8 cells64t (reads_of_laid h h5)
    exact (T.cell tzName 15 (by decide)).trans rfl
  · exact cell_of_shapedOpen_int (zero := #[.int .i64 0]) (t := 3) hs (of_decide_eq_true (by kernel_rfl)) (by kernel_rfl) rfl (by kernel_rfl) (by kernel_rfl) Tryd.underlying3
  · exact iface_of_reads esName esType Tryd.underlying51 (reads_of_laid h h3)
  · exact iface_of_reads erName erType Tryd.underlying51 (reads_of_laid h h4)
theorem tab_of_attrsTexts {W : World} (h : laidMetH Tryd.prog Rows.attrsTextsRow.laid W) (hs : W.ShapedOpen Tryd.prog) : TabA W := tab_of h hs (by simp [Rows.attrsTextsRow]) (by simp [Rows.attrsTextsRow]) (by simp [Rows.attrsTextsRow]) (by simp [Rows.attrsTextsRow]) (by simp [Rows.attrsTextsRow])
theorem tab_of_attrsBack {W : World} (h : laidMetH Tryd.prog Rows.attrsBackRow.laid W) (hs : W.ShapedOpen Tryd.prog) : TabA W := tab_of h hs (by simp [Rows.attrsBackRow]) (by simp [Rows.attrsBackRow]) (by simp [Rows.attrsBackRow]) (by simp [Rows.attrsBackRow]) (by simp [Rows.attrsBackRow])
theorem tab_of_attrsFlagless {W : World} (h : laidMetH Tryd.prog Rows.attrsFlaglessRow.laid W) (hs : W.ShapedOpen Tryd.prog) : TabA W := tab_of h hs (by simp [Rows.attrsFlaglessRow]) (by simp [Rows.attrsFlaglessRow]) (by simp [Rows.attrsFlaglessRow]) (by simp [Rows.attrsFlaglessRow]) (by simp [Rows.attrsFlaglessRow])
theorem tab_of_attrsRaw {W : World} (h : laidMetH Tryd.prog Rows.attrsRawRow.laid W) (hs : W.ShapedOpen Tryd.prog) : TabA W := tab_of h hs (by simp [Rows.attrsRawRow]) (by simp [Rows.attrsRawRow]) (by simp [Rows.attrsRawRow]) (by simp [Rows.attrsRawRow]) (by simp [Rows.attrsRawRow])
theorem tab_of_attrsWith {W : World} (h : laidMetH Tryd.prog Rows.attrsWithRow.laid W) (hs : W.ShapedOpen Tryd.prog) : TabA W := tab_of h hs (by simp [Rows.attrsWithRow]) (by simp [Rows.attrsWithRow]) (by simp [Rows.attrsWithRow]) (by simp [Rows.attrsWithRow]) (by simp [Rows.attrsWithRow])
theorem tab_of_attrsNames {W : World} (h : laidMetH Tryd.prog Rows.attrsNamesRow.laid W) (hs : W.ShapedOpen Tryd.prog) : TabA W := tab_of h hs (by simp [Rows.attrsNamesRow]) (by simp [Rows.attrsNamesRow]) (by simp [Rows.attrsNamesRow]) (by simp [Rows.attrsNamesRow]) (by simp [Rows.attrsNamesRow])
theorem tab_of_attrsFlags {W : World} (h : laidMetH Tryd.prog Rows.attrsFlagsRow.laid W) (hs : W.ShapedOpen Tryd.prog) : TabA W := tab_of h hs (by simp [Rows.attrsFlagsRow]) (by simp [Rows.attrsFlagsRow]) (by simp [Rows.attrsFlagsRow]) (by simp [Rows.attrsFlagsRow]) (by simp [Rows.attrsFlagsRow])

end Go.Proofs.YtgdbkgjnonodjaaDoor.Hand
