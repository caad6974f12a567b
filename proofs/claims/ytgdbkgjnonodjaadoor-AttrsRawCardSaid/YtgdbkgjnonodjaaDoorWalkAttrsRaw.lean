/- AttrsRaw. -/
import Derived.Test.YtgdbkgjnonodjaaDoorHandPlainA
import Derived.Test.YtgdbkgjnonodjaaDoorPAttrsRawx3
namespace Go.Proofs.YtgdbkgjnonodjaaDoor.Hand
open Go.RowKit Go.Proofs.YtgdbkgjnonodjaaDoorW.PrintWords Go.Proofs.YtgdbkgjnonodjaaDoorW.PrintLast Go.Proofs.YtgdbkgjnonodjaaDoor.PAttrsRaw
set_option linter.unusedVariables false
set_option linter.unusedSimpArgs false
theorem raw_alive : whispererlaw06_alive.f = some true := by
  unfold whispererlaw06_alive.f
  rw [alive_text]; simp only [Option.bind_some]
  rw [read_x80]; simp only [Option.bind_some]
  rw [read_ee]; simp only [Option.bind_some]
  decide +kernel
theorem has_none (q : Nat) (hq : 64 * q < 4294967296) (b c : Int) (f : Nat) (hf : f < 64) (h0 : f ≠ 0) : attrs_Has.f ((64 * q : Nat) : Int) b c (f : Int) = some false := by
  unfold attrs_Has.f
  rw [Go.u32_and_nat _ _ hq (by omega), and_low q f hf]
  congr 1
  simp; omega
theorem raw_pure (a b c : Int) (h1 : 0 ≤ a) (h2 : a ≤ 4294967295) : whispererlaw06_AttrsRaw.f 20 a b c = some true := by
  obtain ⟨x, rfl⟩ := Int.eq_ofNat_of_zero_le h1
  have hx : x < 4294967296 := by omega
  have e1 : x - x % 64 = 64 * (x / 64) := by omega
  have hq : 64 * (x / 64) < 4294967296 := by omega
  have hr : attrs_Raw.f (x : Int) b c = some (((64 * (x / 64) : Nat) : Int), 1, 0) := by
    unfold attrs_Raw.f
    rw [andnot63 x hx, e1]
  have hr2 : attrs_Raw.f ((64 * (x / 64) : Nat) : Int) 1 0 = some (((64 * (x / 64) : Nat) : Int), 1, 0) := by
    unfold attrs_Raw.f
    rw [andnot63 _ hq, show 64 * (x / 64) - 64 * (x / 64) % 64 = 64 * (x / 64) by omega]
  have hm : bits .and .u32 ((64 * (x / 64) : Nat) : Int) 4294967232 = bits .and .u32 (x : Int) 4294967232 := by
    rw [mask_rest _ hq, mask_rest _ hx, e1]
    congr 1
    omega
  have h0 : attrs_Has.f ((64 * (x / 64) : Nat) : Int) 1 0 0 = some true := by
    unfold attrs_Has.f
    rw [show (0 : Int) = ((0 : Nat) : Int) from rfl, Go.u32_and_nat _ 0 hq (by omega)]
    simp
  have n1 := has_none (x / 64) hq 1 0 1 (by omega) (by omega)
  have n2 := has_none (x / 64) hq 1 0 2 (by omega) (by omega)
  have n4 := has_none (x / 64) hq 1 0 4 (by omega) (by omega)
  have n8 := has_none (x / 64) hq 1 0 8 (by omega) (by omega)
  have n16 := has_none (x / 64) hq 1 0 16 (by omega) (by omega)
  have n32 := has_none (x / 64) hq 1 0 32 (by omega) (by omega)
  simp only [Int.ofNat_one, Int.cast_ofNat_Int] at n1 n2 n4 n8 n16 n32
  unfold whispererlaw06_AttrsRaw.f
  rw [hr]
  simp only [Option.bind_some]
  generalize ((64 * (x / 64) : Nat) : Int) = R at *
  have w1 : wrap64 (0 + 1) = 1 := w64 (by omega) (by omega)
  have w2 : wrap64 (1 + 1) = 2 := w64 (by omega) (by omega)
  have w3 : wrap64 (2 + 1) = 3 := w64 (by omega) (by omega)
  have w4 : wrap64 (3 + 1) = 4 := w64 (by omega) (by omega)
  have w5 : wrap64 (4 + 1) = 5 := w64 (by omega) (by omega)
  have w6 : wrap64 (5 + 1) = 6 := w64 (by omega) (by omega)
  have v (n : Int) (h0 : 0 ≤ n) (h1 : n ≤ 100) : wrap64 n = n := w64 (by omega) (by omega)
  have v1 := v 1 (by omega) (by omega)
  have v2 := v 2 (by omega) (by omega)
  have v3 := v 3 (by omega) (by omega)
  have v4 := v 4 (by omega) (by omega)
  have v5 := v 5 (by omega) (by omega)
  have v6 := v 6 (by omega) (by omega)
  simp [whispererlaw06_AttrsRaw.l0, rd, v1, v2, v3, v4, v5, v6, n1, n2, n4, n8, n16, n32, raw_alive, hr2, hm, h0]
theorem AttrsRaw_walk (a0_0 a0_1 a0_2 : Int) (w0_0 : (Lit.int .u32 a0_0).wf = true) (w0_1 : (Lit.int .u8 a0_1).wf = true) (w0_2 : (Lit.int .u8 a0_2).wf = true) (w : World) (HT : TabA w) :
    Calls Tryd.prog 6 #[.agg #[.int .u32 a0_0, .int .u8 a0_1, .int .u8 a0_2]] w fun e w' => e = .returned (.bool true) ∧ Below w.heap.size w w' :=
  PAttrsRaw.whispererlaw06_AttrsRaw.calls 20 a0_0 a0_1 a0_2 true w HT (raw_pure a0_0 a0_1 a0_2 (wf_u32 w0_0).1 (wf_u32 w0_0).2)
end Go.Proofs.YtgdbkgjnonodjaaDoor.Hand
