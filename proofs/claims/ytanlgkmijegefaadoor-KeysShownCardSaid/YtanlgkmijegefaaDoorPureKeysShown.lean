/- KeysShown: a number's key is a Rune just if it may be shown. -/
import Derived.Test.YtanlgkmijegefaaDoorPKeysShownx3
import Derived.Test.YtanlgkmijegefaaDoorHandKeyModel2
namespace Go.Proofs.YtanlgkmijegefaaDoor.Pure
open Go.RowKit Go.Proofs.YtanlgkmijegefaaDoor.PKeysShown Go.Proofs.YtanlgkmijegefaaDoor.Hand Go.Proofs.YtanlgkmijegefaaDoorW.PrintWords Go.Proofs.YtanlgkmijegefaaDoorW.PrintLast
set_option linter.unusedVariables false
set_option linter.unusedSimpArgs false

theorem alive_ok (k : Nat) : whispererlaw08_alive.f (k + 5) = some true := by
  unfold whispererlaw08_alive.f
  rw [show k + 5 = (k + 3) + 2 from rfl, bytes_eq, read_eq _ _ (by decide), of_eq _ _ (by decide)]
  have h1 : chk 3 0 = 0 := by decide +kernel
  have h2 : readL (⟨#[114, 117, 110, 101, 32, 54, 53]⟩ : ByteArray) = (0, 65, 0) := by decide +kernel
  have h3 : prn 21 = false := by decide +kernel
  have h4 : kindOf 21 = 8 := by decide +kernel
  rw [h1, h2, h3, h4]
  have h5 : (strOfNums (bytesOf 3)).toList = ([27, 91, 51, 126] : List UInt8) := by decide +kernel
  simp [h5]

theorem KeysShown : whispererlaw08_KeysShown.Pure := by
  intro c hw
  refine ⟨5, ?_⟩
  unfold whispererlaw08_KeysShown.f
  rw [alive_ok 0, of_eq _ _ hw, prn_eq]
  simp only [Option.bind_some]
  by_cases h : prn c = true
  · rw [if_pos h, bytes_eq]
    have hc : chk 0 c = 0 := (chk0 0 c).2 (.inl ⟨rfl, h⟩)
    simp [hc, h]
  · rw [if_neg h, bytes_eq]
    have hk := kindOf_range c
    have hc : chk (kindOf c) 0 = 0 := (chk0 _ 0).2 (.inr ⟨by omega, by omega, rfl⟩)
    have hb : prn c = false := Bool.eq_false_iff.2 h
    have hn : kindOf c ≠ 0 := by omega
    simp [hc, hb, hn]

end Go.Proofs.YtanlgkmijegefaaDoor.Pure
