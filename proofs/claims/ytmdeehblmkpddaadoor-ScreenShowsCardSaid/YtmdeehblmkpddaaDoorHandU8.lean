/- unicode/utf8's two tables, from what a row lists. -/
import Derived.Test.YtmdeehblmkpddaaDoorHandUtf
import Derived.Test.YtmdeehblmkpddaaDoorHandLaid
import Derived.Test.YtmdeehblmkpddaaDoorRows
import Derived.Lib.LaidU8
import Derived.PinnedBridge
namespace Go.Proofs.YtmdeehblmkpddaaDoor.Hand
open Go.RowKit
set_option linter.unusedVariables false
set_option maxRecDepth 100000

theorem fsName : Tryd.prog.globalNamed "unicode/utf8.first" = some 1 := by kernel_rfl
theorem acName : Tryd.prog.globalNamed "unicode/utf8.acceptRanges" = some 2 := by kernel_rfl
theorem fsType : (Tryd.prog.globals[1]?).map (·.type) = some 128 := by kernel_rfl
theorem acType : (Tryd.prog.globals[2]?).map (·.type) = some 131 := by kernel_rfl
theorem cellsU8 : Tryd.prog.cellsOf 5 = 1 := by kernel_rfl
theorem cells256 : Tryd.prog.cellsOf 128 = 256 := by kernel_rfl
theorem cellsAc : Tryd.prog.cellsOf 130 = 2 := by kernel_rfl

theorem u8_of {w : World} (h3 : Reads1 Tryd.prog w "unicode/utf8.first" Lib.firstData) (h4 : Reads1 Tryd.prog w "unicode/utf8.acceptRanges" Lib.acceptData) : U8In w := by
  refine ⟨fun c hc => ?_, fun i hi => ?_⟩
  · obtain ⟨g, t, cs, fuel, p, hg, hty, hvar, hd⟩ := h3
    obtain rfl := Option.some.inj (fsName.symm.trans hg)
    obtain rfl := Option.some.inj (fsType.symm.trans hty)
    have hcs := Lib.cells_of_tab Tryd.underlying128 Tryd.underlying5 cellsU8 cells256 hd
    have := World.var?_cell hg hvar c
    rw [this, ← Array.getElem?_toList, hcs]
    simp [Lib.firstTab, hc]
  · obtain ⟨g, t, cs, fuel, p, hg, hty, hvar, hd⟩ := h4
    obtain rfl := Option.some.inj (acName.symm.trans hg)
    obtain rfl := Option.some.inj (acType.symm.trans hty)
    obtain ⟨fuel', d, q, hdi, he⟩ := Lib.array_elem Tryd.underlying131 hd i hi
    simp only [List.getElem?_map, List.getElem?_range hi, Option.map_some, Option.some.injEq] at hdi
    subst hdi
    rw [cellsAc] at he
    have hcs := Lib.ints_of_struct Tryd.underlying130 (fun j f hj => by
      match j, hj with
      | 0, hj => simp at hj; subst hj; exact ⟨Tryd.underlying5, rfl, cellsU8⟩
      | 1, hj => simp at hj; subst hj; exact ⟨Tryd.underlying5, rfl, cellsU8⟩
      | j + 2, hj => simp at hj) (by rw [cellsAc]; rfl) he
    have e0 := congrArg (·[0]?) hcs
    have e1 := congrArg (·[1]?) hcs
    simp only [List.getElem?_take, List.getElem?_drop] at e0 e1
    constructor
    · rw [World.var?_cell hg hvar (2 * i), ← Array.getElem?_toList]
      simpa [Nat.mul_comm] using e0
    · rw [World.var?_cell hg hvar (2 * i + 1), ← Array.getElem?_toList]
      simpa [Nat.mul_comm] using e1
theorem acc_eq : (Rows.laid_unicode_utf8_acceptRanges : DataW Unit) = Lib.acceptData := by kernel_rfl
theorem u8_of_laid {W : World} {l : List (String × DataW Unit)} (h : laidMet Tryd.prog l W) (h1 : ("unicode/utf8.first", Rows.laid_unicode_utf8_first) ∈ l) (h2 : ("unicode/utf8.acceptRanges", Rows.laid_unicode_utf8_acceptRanges) ∈ l) : U8In W := by
  refine u8_of ?_ ?_
  · have := reads_of_laid h h1
    rwa [show Rows.laid_unicode_utf8_first = Lib.firstData from Go.Pinned.utf8First_eq] at this
  · have := reads_of_laid h h2
    rwa [acc_eq] at this

end Go.Proofs.YtmdeehblmkpddaaDoor.Hand
