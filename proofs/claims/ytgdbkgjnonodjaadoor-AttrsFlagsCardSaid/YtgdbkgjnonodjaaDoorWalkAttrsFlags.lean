/- AttrsFlags. -/
import Derived.Test.YtgdbkgjnonodjaaDoorPlainBits06
import Derived.Test.YtgdbkgjnonodjaaDoorPAttrsFlagsx3
namespace Go.Proofs.YtgdbkgjnonodjaaDoor.Hand
open Go.RowKit Go.Proofs.YtgdbkgjnonodjaaDoorW.PrintWords Go.Proofs.YtgdbkgjnonodjaaDoorW.PrintLast Go.Proofs.YtgdbkgjnonodjaaDoor.PAttrsFlags
set_option linter.unusedVariables false
set_option linter.unusedSimpArgs false
theorem flags_alive : whispererlaw06_alive.f = some true := by
  unfold whispererlaw06_alive.f
  rw [alive_text]; simp only [Option.bind_some]
  rw [read_x80]; simp only [Option.bind_some]
  rw [read_ee]; simp only [Option.bind_some]
  decide +kernel
theorem bit_run (d : Nat) : ∀ (x i c k : Nat), x < 4294967296 → c + d = i → i ≤ 100 → whispererref06_bit.l0 (d + 1 + k) x i c = some (x.testBit d) := by
  induction d with
  | zero =>
    intro x i c k hx hc hi
    rw [show 0 + 1 + k = k + 1 by omega]
    simp only [whispererref06_bit.l0]
    rw [if_neg (by omega), bit_div]
    have e : Int.tmod (x : Int) 2 = ((x % 2 : Nat) : Int) := by rw [Int.tmod_eq_emod_of_nonneg (by omega)]; omega
    rw [e]
    congr 1
    rw [show x / 2 ^ 0 = x by simp]
    by_cases h : x % 2 = 1
    · rw [h]; decide
    · rw [show x % 2 = 0 by omega]; decide
  | succ d ih =>
    intro x i c k hx hc hi
    rw [show d + 1 + 1 + k = (d + 1 + k) + 1 by omega]
    simp only [whispererref06_bit.l0]
    rw [if_pos (by omega)]
    have e : (Int.tdiv (x : Int) 2) % 4294967296 = ((x / 2 : Nat) : Int) := by rw [Int.tdiv_eq_ediv_of_nonneg (by omega)]; omega
    have e2 : wrap64 ((c : Int) + 1) = ((c + 1 : Nat) : Int) := by rw [w64 (by omega) (by omega)]; omega
    rw [e, e2, ih (x / 2) i (c + 1) k (by omega) (by omega) hi, Nat.testBit_succ]
theorem bit_eq (x i k : Nat) (hx : x < 4294967296) (hi : i ≤ 100) (hk : i < k) : whispererref06_bit.f k x i = some (x.testBit i) := by
  obtain ⟨m, rfl⟩ : ∃ m, k = i + 1 + m := ⟨k - (i + 1), by omega⟩
  exact bit_run i x i 0 m hx (by omega) hi
def hasR (a f : Nat) : Nat → Nat → Bool
  | 0, _ => true
  | d + 1, j => if f.testBit j && !a.testBit j then false else hasR a f d (j + 1)
theorem hasR_iff (a f : Nat) : ∀ d j, hasR a f d j = true ↔ ∀ i, j ≤ i → i < j + d → f.testBit i = true → a.testBit i = true
  | 0, j => ⟨fun _ i h1 h2 => by omega, fun _ => rfl⟩
  | d + 1, j => by
    unfold hasR
    have ih := hasR_iff a f d (j + 1)
    split
    · rename_i h
      rw [Bool.and_eq_true, Bool.not_eq_true'] at h
      constructor
      · intro h'; exact absurd h' (by decide)
      · intro h'
        have := h' j (by omega) (by omega) h.1
        rw [h.2] at this; exact absurd this (by decide)
    · rename_i h
      rw [ih]
      constructor
      · intro h' i h1 h2 h3
        by_cases hij : i = j
        · subst hij
          cases ha : a.testBit i
          · rw [h3, ha] at h; exact absurd rfl h
          · rfl
        · exact h' i (by omega) (by omega) h3
      · intro h' i h1 h2 h3
        exact h' i (by omega) (by omega) h3
theorem has_run (a f : Nat) (ha : a < 4294967296) (hf : f < 4294967296) (b c : Int) (d : Nat) : ∀ (j k : Nat), j + d = 32 → whispererref06_Has.l0 (d + 40 + k) f j a b c = some (hasR a f d j) := by
  induction d with
  | zero =>
    intro j k hj
    rw [show 0 + 40 + k = (39 + k) + 1 by omega]
    simp only [whispererref06_Has.l0]
    rw [if_neg (by omega)]
    rfl
  | succ d ih =>
    intro j k hj
    rw [show d + 1 + 40 + k = (d + 40 + k) + 1 by omega]
    simp only [whispererref06_Has.l0, hasR]
    have e2 : wrap64 ((j : Int) + 1) = ((j + 1 : Nat) : Int) := by rw [w64 (by omega) (by omega)]; omega
    rw [if_pos (by omega), bit_eq f j (d + 40 + k) hf (by omega) (by omega)]
    simp only [Option.bind_some]
    rw [bit_eq a j (d + 40 + k) ha (by omega) (by omega), e2, ih (j + 1) k (by omega)]
    simp only [Option.bind_some]
    cases f.testBit j <;> cases a.testBit j <;> simp
theorem ref_has (a f : Nat) (ha : a < 4294967296) (hf : f < 4294967296) (b c : Int) (k : Nat) (hk : 72 ≤ k) : whispererref06_Has.f k a b c f = some (hasN a f) := by
  obtain ⟨m, rfl⟩ : ∃ m, k = 32 + 40 + m := ⟨k - 72, by omega⟩
  refine (has_run a f ha hf b c 32 0 m (by omega)).trans ?_
  congr 1
  rw [Bool.eq_iff_iff, hasR_iff, hasN_iff a f hf]
  exact ⟨fun h i hi => h i (by omega) (by omega), fun h i _ hi => h i (by omega)⟩
theorem with_run (a f r : Nat) (on : Bool) (ha : a < 4294967296) (hf : f < 4294967296) (hr : r < 4294967296) (hb : ∀ i, i < 32 → r.testBit i = if on then (a.testBit i || f.testBit i) else (a.testBit i && !f.testBit i)) (b c : Int) (d : Nat) :
    ∀ (j k : Nat), j + d = 32 → whispererref06_With.l0 (d + 40 + k) f on ((r % 2 ^ j : Nat) : Int) ((2 ^ j % 4294967296 : Nat) : Int) j a b c = some ((r : Int), b, c) := by
  induction d with
  | zero =>
    intro j k hj
    rw [show 0 + 40 + k = (39 + k) + 1 by omega]
    simp only [whispererref06_With.l0]
    obtain rfl : j = 32 := by omega
    rw [if_neg (by omega), Nat.mod_eq_of_lt (show r < 2 ^ 32 from hr)]
  | succ d ih =>
    intro j k hj
    have ih := ih (j + 1) k (by omega)
    have hp : 2 ^ j ≤ 2 ^ 31 := Nat.pow_le_pow_right (by decide) (by omega)
    have h31 : (2 : Nat) ^ 31 = 2147483648 := by decide
    have hp1 : 2 ^ (j + 1) = 2 ^ j * 2 := Nat.pow_succ 2 j
    have hm := mod_bit r j
    have hlt : r % 2 ^ j < 2 ^ j := Nat.mod_lt _ (Nat.two_pow_pos j)
    have hbj := hb j (by omega)
    rw [show d + 1 + 40 + k = (d + 40 + k) + 1 by omega]
    simp only [whispererref06_With.l0]
    have e2 : wrap64 ((j : Int) + 1) = ((j + 1 : Nat) : Int) := by rw [w64 (by omega) (by omega)]; omega
    have ef := bit_eq f j (d + 40 + k) hf (by omega) (by omega)
    have ea := bit_eq a j (d + 40 + k) ha (by omega) (by omega)
    have e8 : (((2 ^ j % 4294967296 : Nat) : Int) * 2) % 4294967296 = ((2 ^ (j + 1) % 4294967296 : Nat) : Int) := by rw [hp1]; omega
    rw [if_pos (by omega), ef]
    simp only [Option.bind_some]
    rw [ea]
    simp only [Option.bind_some]
    rw [e2, e8]
    have eset : r.testBit j = true → (((r % 2 ^ j : Nat) : Int) + ((2 ^ j % 4294967296 : Nat) : Int)) % 4294967296 = ((r % 2 ^ (j + 1) : Nat) : Int) := by
      intro h
      rw [h, if_pos rfl] at hm
      omega
    have ekeep : r.testBit j = false → ((r % 2 ^ j : Nat) : Int) = ((r % 2 ^ (j + 1) : Nat) : Int) := by
      intro h
      rw [h, if_neg (by decide)] at hm
      omega
    cases hf1 : f.testBit j <;> cases ha1 : a.testBit j <;> cases on
    all_goals
      rw [hf1, ha1] at hbj
      simp only [if_true, if_false, Bool.or_true, Bool.or_false, Bool.and_true, Bool.and_false, Bool.not_true, Bool.not_false, Bool.false_eq_true, Bool.true_eq_false] at hbj ⊢
    all_goals first | (rw [eset hbj]; exact ih) | (rw [ekeep hbj]; exact ih)
theorem ref_with (a f : Nat) (on : Bool) (ha : a < 4294967296) (hf : f < 4294967296) (b c : Int) (k : Nat) (hk : 72 ≤ k) : whispererref06_With.f k a b c f on = some (((if on then orN a f else offN a f : Nat) : Int), b, c) := by
  obtain ⟨m, rfl⟩ : ∃ m, k = 32 + 40 + m := ⟨k - 72, by omega⟩
  have hr : (if on then orN a f else offN a f : Nat) < 4294967296 := by
    split
    · exact orN_lt ha hf
    · exact offN_lt ha
  have := with_run a f (if on then orN a f else offN a f) on ha hf hr (fun i hi => by
    cases on
    · simp [offN_bit a f i ha hf]
    · simp [orN_bit]) b c 32 0 m (by omega)
  unfold whispererref06_With.f
  simpa [Nat.mod_one] using this
theorem flags_pure (a b c f : Int) (on : Bool) (h1 : 0 ≤ a) (h2 : a ≤ 4294967295) (h3 : 0 ≤ f) (h4 : f ≤ 4294967295) : whispererlaw06_AttrsFlags.f 200 a b c f on = some true := by
  obtain ⟨a, rfl⟩ := Int.eq_ofNat_of_zero_le h1
  obtain ⟨f, rfl⟩ := Int.eq_ofNat_of_zero_le h3
  have ha : a < 4294967296 := by omega
  have hf : f < 4294967296 := by omega
  have e1 : attrs_Raw.f (a : Int) b c = some (((a - a % 64 : Nat) : Int), 1, 0) := by unfold attrs_Raw.f; rw [andnot63 a ha]
  have e2 : whispererref06_Raw.f (a : Int) b c = some (((a - a % 64 : Nat) : Int), 1, 0) := by
    unfold whispererref06_Raw.f
    rw [Int.tmod_eq_emod_of_nonneg (by omega)]
    congr 2
    omega
  have e3 : attrs_Has.f (a : Int) b c f = some (hasN a f) := by
    unfold attrs_Has.f
    rw [Go.u32_and_nat a f ha hf]
    congr 1
    unfold hasN
    by_cases h : a &&& f = f
    · rw [h]; simp
    · simp [h]; omega
  have e5 : attrs_With.f (a : Int) b c f on = some (((if on then orN a f else offN a f : Nat) : Int), b, c) := by
    unfold attrs_With.f
    rw [Go.u32_or_nat a f ha hf, Go.u32_andNot_nat a f ha hf]
    cases on <;> rfl
  have e4 : ∀ k, 72 ≤ k → whispererref06_Has.f k (a : Int) b c f = some (hasN a f) := fun k hk => ref_has a f ha hf b c k hk
  have e6 : ∀ k, 72 ≤ k → whispererref06_With.f k (a : Int) b c f on = some (((if on then orN a f else offN a f : Nat) : Int), b, c) := fun k hk => ref_with a f on ha hf b c k hk
  have hn : whispererref06_Names.f = some namesL := rfl
  have v (n : Int) (h0 : 0 ≤ n) (h1 : n ≤ 100) : wrap64 n = n := w64 (by omega) (by omega)
  have v1 := v 1 (by omega) (by omega)
  have v2 := v 2 (by omega) (by omega)
  have v3 := v 3 (by omega) (by omega)
  have v4 := v 4 (by omega) (by omega)
  have v5 := v 5 (by omega) (by omega)
  have v6 := v 6 (by omega) (by omega)
  have v7 := v 7 (by omega) (by omega)
  have el : ∀ k : Nat, 73 ≤ k → whispererlaw06_AttrsFlags.l0 k f on namesL namesL 7 7 a b c = some true := by
    intro k hk
    obtain ⟨m, rfl⟩ : ∃ m, k = m + 1 := ⟨k - 1, by omega⟩
    simp only [whispererlaw06_AttrsFlags.l0]
    rw [if_neg (by omega), e1]
    simp only [Option.bind_some]
    rw [e2]
    simp only [Option.bind_some, beq_self_eq_true, Bool.and_self, if_true]
    rw [e3]
    simp only [Option.bind_some]
    rw [e4 m (by omega)]
    simp only [Option.bind_some, beq_self_eq_true, Bool.and_self, if_true]
    rw [e5]
    simp only [Option.bind_some]
    rw [e6 m (by omega)]
    simp only [Option.bind_some, beq_self_eq_true, Bool.and_self]
  have step : ∀ (j k : Nat), j < 7 → whispererlaw06_AttrsFlags.l0 k f on namesL namesL 7 ((j + 1 : Nat) : Int) a b c = some true → whispererlaw06_AttrsFlags.l0 (k + 1) f on namesL namesL 7 (j : Int) a b c = some true := by
    intro j k hj h
    simp only [whispererlaw06_AttrsFlags.l0]
    have hl : (namesL.length : Int) = 7 := by decide
    rw [if_pos (by omega), if_pos (by omega), hl, if_pos (by omega), if_pos (by omega), if_pos trivial, v _ (by omega) (by omega)]
    exact h
  unfold whispererlaw06_AttrsFlags.f
  rw [show Hand.attrs_Names.f = some namesL from rfl, hn]
  simp only [Option.bind_some]
  rw [flags_alive]
  simp only [Option.bind_some, if_true]
  simp only [whispererlaw06_AttrsFlags.j0]
  rw [if_neg (by decide), show (namesL.length : Int) = 7 by decide]
  exact step 0 198 (by omega) (step 1 197 (by omega) (step 2 196 (by omega) (step 3 195 (by omega) (step 4 194 (by omega) (step 5 193 (by omega) (step 6 192 (by omega) (el 192 (by omega))))))))
theorem AttrsFlags_walk (a0_0 a0_1 a0_2 a1 : Int) (a2 : Bool) (w0_0 : (Lit.int .u32 a0_0).wf = true) (w0_1 : (Lit.int .u8 a0_1).wf = true) (w0_2 : (Lit.int .u8 a0_2).wf = true) (w1 : (Lit.int .u32 a1).wf = true) (w : World) (HT : TabA w) :
    Calls Tryd.prog 9 #[.agg #[.int .u32 a0_0, .int .u8 a0_1, .int .u8 a0_2], .int .u32 a1, .bool a2] w fun e w' => e = .returned (.bool true) ∧ Below w.heap.size w w' :=
  PAttrsFlags.whispererlaw06_AttrsFlags.calls 200 a0_0 a0_1 a0_2 a1 a2 true w HT (flags_pure a0_0 a0_1 a0_2 a1 a2 (wf_u32 w0_0).1 (wf_u32 w0_0).2 (wf_u32 w1).1 (wf_u32 w1).2)
end Go.Proofs.YtgdbkgjnonodjaaDoor.Hand
