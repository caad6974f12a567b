/- AttrsTexts. -/
import Derived.Test.YtgdbkgjnonodjaaDoorHandRefR
import Derived.Test.YtgdbkgjnonodjaaDoorPAttrsTextsx3
namespace Go.Proofs.YtgdbkgjnonodjaaDoor.Hand
open Go.RowKit Go.Proofs.YtgdbkgjnonodjaaDoorW.PrintWords Go.Proofs.YtgdbkgjnonodjaaDoorW.PrintLast Go.Proofs.YtgdbkgjnonodjaaDoor.PAttrsTexts
set_option linter.unusedVariables false
set_option linter.unusedSimpArgs false
theorem texts_alive : whispererlaw06_alive.f = some true := by
  unfold whispererlaw06_alive.f
  rw [alive_text]; simp only [Option.bind_some]
  rw [read_x80]; simp only [Option.bind_some]
  rw [read_ee]; simp only [Option.bind_some]
  decide +kernel
theorem texts_pure (a b c : Int) (s : ByteArray) (ha : inA a b c = true) : whispererlaw06_AttrsTexts.f 300000 a b c s = some true := by
  unfold whispererlaw06_AttrsTexts.f
  by_cases hs : (s.size : Int) > 500
  · rw [if_pos hs, texts_alive]; rfl
  · rw [if_neg hs]
    obtain ⟨h1, h2, h3, h4, h5, h6⟩ := (inA_iff _ _ _).1 ha
    obtain ⟨a, rfl⟩ := Int.eq_ofNat_of_zero_le h1
    obtain ⟨b, rfl⟩ := Int.eq_ofNat_of_zero_le h3
    obtain ⟨c, rfl⟩ := Int.eq_ofNat_of_zero_le h5
    have hr : attrs_Read.f s = some (readV s) := by unfold attrs_Read.f; rw [if_pos (by omega)]
    rw [hr]
    simp only [Option.bind_some]
    rw [ref_read s (by omega) 300000 (by omega)]
    simp only [Option.bind_some]
    rw [texts_alive]
    simp only [Option.bind_some, if_true]
    rw [text_nat a b c (by omega) (by omega) (by omega)]
    simp only [Option.bind_some]
    rw [ref_text a b c (by omega) (by omega) (by omega) 300000 (by omega)]
    simp
theorem AttrsTexts_walk (a0_0 a0_1 a0_2 : Int) (a1 : ByteArray) (w0_0 : (Lit.int .u32 a0_0).wf = true) (w0_1 : (Lit.int .u8 a0_1).wf = true) (w0_2 : (Lit.int .u8 a0_2).wf = true) (w1 : a1.size ≤ 140737488351232) (w : World) (HT : TabA w) :
    Calls Tryd.prog 3 #[.agg #[.int .u32 a0_0, .int .u8 a0_1, .int .u8 a0_2], .string a1] w fun e w' => e = .returned (.bool true) ∧ Below w.heap.size w w' :=
  PAttrsTexts.whispererlaw06_AttrsTexts.calls 300000 a0_0 a0_1 a0_2 a1 true w HT (texts_pure a0_0 a0_1 a0_2 a1
    ((inA_iff _ _ _).2 ⟨(wf_u32 w0_0).1, (wf_u32 w0_0).2, (wf_u8 w0_1).1, (wf_u8 w0_1).2, (wf_u8 w0_2).1, (wf_u8 w0_2).2⟩))
end Go.Proofs.YtgdbkgjnonodjaaDoor.Hand
