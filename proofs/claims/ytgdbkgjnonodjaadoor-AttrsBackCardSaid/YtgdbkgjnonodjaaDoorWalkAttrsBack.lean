/- AttrsBack. -/
import Derived.Test.YtgdbkgjnonodjaaDoorHandPlainA
import Derived.Test.YtgdbkgjnonodjaaDoorPAttrsBackx3
namespace Go.Proofs.YtgdbkgjnonodjaaDoor.Hand
open Go.RowKit Go.Proofs.YtgdbkgjnonodjaaDoorW.PrintWords Go.Proofs.YtgdbkgjnonodjaaDoorW.PrintLast Go.Proofs.YtgdbkgjnonodjaaDoor.PAttrsBack
set_option linter.unusedVariables false
set_option linter.unusedSimpArgs false
theorem back_alive : whispererlaw06_alive.f = some true := by
  unfold whispererlaw06_alive.f
  rw [alive_text]; simp only [Option.bind_some]
  rw [read_x80]; simp only [Option.bind_some]
  rw [read_ee]; simp only [Option.bind_some]
  decide +kernel
theorem back_tail (s : ByteArray) (hs : s.size ≤ 500) (k : Nat) : whispererlaw06_AttrsBack.j0 (k + 1) s false = some true := by
  simp only [whispererlaw06_AttrsBack.j0]
  rw [if_neg (by decide)]
  have hr : attrs_Read.f s = some (readV s) := by unfold attrs_Read.f; rw [if_pos (by omega)]
  rw [hr]
  simp only [Option.bind_some]
  rcases readV_cases s with ⟨a, b, c, h1, h2, h3, rfl, hv⟩ | ⟨hv, _⟩
  · rw [hv]
    simp only
    rw [if_pos trivial, text_nat a b c h1 h2 h3]
    simp
  · rw [hv]
    simp
theorem back_pure (a b c d e f : Int) (s : ByteArray) (ha : inA a b c = true) (hd : inA d e f = true) : whispererlaw06_AttrsBack.f 10 a b c d e f s = some true := by
  unfold whispererlaw06_AttrsBack.f
  by_cases hs : (s.size : Int) > 500
  · rw [if_pos hs, back_alive]; rfl
  · rw [if_neg hs]
    obtain ⟨h1, h2, h3, h4, h5, h6⟩ := (inA_iff _ _ _).1 ha
    obtain ⟨a, rfl⟩ := Int.eq_ofNat_of_zero_le h1
    obtain ⟨b, rfl⟩ := Int.eq_ofNat_of_zero_le h3
    obtain ⟨c, rfl⟩ := Int.eq_ofNat_of_zero_le h5
    obtain ⟨g1, g2, g3, g4, g5, g6⟩ := (inA_iff _ _ _).1 hd
    obtain ⟨d, rfl⟩ := Int.eq_ofNat_of_zero_le g1
    obtain ⟨e, rfl⟩ := Int.eq_ofNat_of_zero_le g3
    obtain ⟨f, rfl⟩ := Int.eq_ofNat_of_zero_le g5
    have ht := text_nat a b c (by omega) (by omega) (by omega)
    have hu := text_nat d e f (by omega) (by omega) (by omega)
    have hr := read_text_f a b c (by omega) (by omega) (by omega)
    have hj := back_tail s (by omega) 9
    have hq : ((textV a b c).toList == (textV d e f).toList) = (((a : Int) == (d : Int)) && (((b : Int) == (e : Int)) && ((c : Int) == (f : Int)))) := by
      rw [ba_beq]
      by_cases h : textV a b c = textV d e f
      · obtain ⟨rfl, rfl, rfl⟩ := textV_inj (by omega) (by omega) (by omega) (by omega) (by omega) (by omega) h
        simp
      · rw [decide_eq_false h]
        symm
        cases hh : (((a : Int) == (d : Int)) && (((b : Int) == (e : Int)) && ((c : Int) == (f : Int))))
        · rfl
        · exfalso
          simp only [Bool.and_eq_true, beq_iff_eq] at hh
          obtain ⟨e1, e2, e3⟩ := hh
          have e1 : a = d := by omega
          have e2 : b = e := by omega
          have e3 : c = f := by omega
          exact h (by rw [e1, e2, e3])
    rw [ht]
    simp only [Option.bind_some]
    rw [hr]
    simp only [Option.bind_some]
    rw [back_alive]
    simp only [Option.bind_some, if_true, beq_self_eq_true, Bool.not_true, Bool.or_self, Bool.false_eq_true, if_false]
    rw [hu]
    simp only [Option.bind_some]
    rw [hq]
    rw [show ∀ x : Bool, (x != x) = false by decide]
    exact hj
theorem AttrsBack_walk (a0_0 a0_1 a0_2 a1_0 a1_1 a1_2 : Int) (a2 : ByteArray) (w0_0 : (Lit.int .u32 a0_0).wf = true) (w0_1 : (Lit.int .u8 a0_1).wf = true) (w0_2 : (Lit.int .u8 a0_2).wf = true) (w1_0 : (Lit.int .u32 a1_0).wf = true) (w1_1 : (Lit.int .u8 a1_1).wf = true) (w1_2 : (Lit.int .u8 a1_2).wf = true) (w2 : a2.size ≤ 140737488351232) (w : World) (HT : TabA w) :
    Calls Tryd.prog 4 #[.agg #[.int .u32 a0_0, .int .u8 a0_1, .int .u8 a0_2], .agg #[.int .u32 a1_0, .int .u8 a1_1, .int .u8 a1_2], .string a2] w fun e w' => e = .returned (.bool true) ∧ Below w.heap.size w w' :=
  PAttrsBack.whispererlaw06_AttrsBack.calls 10 a0_0 a0_1 a0_2 a1_0 a1_1 a1_2 a2 true w HT (back_pure a0_0 a0_1 a0_2 a1_0 a1_1 a1_2 a2
    ((inA_iff _ _ _).2 ⟨(wf_u32 w0_0).1, (wf_u32 w0_0).2, (wf_u8 w0_1).1, (wf_u8 w0_1).2, (wf_u8 w0_2).1, (wf_u8 w0_2).2⟩) ((inA_iff _ _ _).2 ⟨(wf_u32 w1_0).1, (wf_u32 w1_0).2, (wf_u8 w1_1).1, (wf_u8 w1_1).2, (wf_u8 w1_2).1, (wf_u8 w1_2).2⟩))
end Go.Proofs.YtgdbkgjnonodjaaDoor.Hand
