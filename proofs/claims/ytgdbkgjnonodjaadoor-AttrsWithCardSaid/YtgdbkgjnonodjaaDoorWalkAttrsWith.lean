/- AttrsWith. -/
import Derived.Test.YtgdbkgjnonodjaaDoorPlainBits06
import Derived.Test.YtgdbkgjnonodjaaDoorPAttrsWithx4
namespace Go.Proofs.YtgdbkgjnonodjaaDoor.Hand
open Go.RowKit Go.Proofs.YtgdbkgjnonodjaaDoorW.PrintWords Go.Proofs.YtgdbkgjnonodjaaDoorW.PrintLast Go.Proofs.YtgdbkgjnonodjaaDoor.PAttrsWith
set_option linter.unusedVariables false
set_option linter.unusedSimpArgs false
theorem with_alive : whispererlaw06_alive.f = some true := by
  unfold whispererlaw06_alive.f
  rw [alive_text]; simp only [Option.bind_some]
  rw [read_x80]; simp only [Option.bind_some]
  rw [read_ee]; simp only [Option.bind_some]
  decide +kernel
theorem whas (a f : Nat) (b c : Int) (ha : a < 4294967296) (hf : f < 4294967296) : attrs_Has.f (a : Int) b c f = some (hasN a f) := by
  unfold attrs_Has.f
  rw [Go.u32_and_nat a f ha hf]
  congr 1
  unfold hasN
  by_cases h : a &&& f = f
  · rw [h]; simp
  · simp [h]; omega
theorem won (a f : Nat) (b c : Int) (ha : a < 4294967296) (hf : f < 4294967296) : attrs_With.f (a : Int) b c f true = some (((orN a f : Nat) : Int), b, c) := by
  unfold attrs_With.f
  rw [Go.u32_or_nat a f ha hf]
  rfl
theorem woff (a f : Nat) (b c : Int) (ha : a < 4294967296) (hf : f < 4294967296) : attrs_With.f (a : Int) b c f false = some (((offN a f : Nat) : Int), b, c) := by
  unfold attrs_With.f
  rw [Go.u32_andNot_nat a f ha hf]
  rfl
theorem has_or (a f : Nat) (hf : f < 4294967296) : hasN (orN a f) f = true := by
  rw [hasN_iff _ _ hf]
  intro i _ h
  rw [orN_bit, h, Bool.or_true]
theorem has_off (a f : Nat) (ha : a < 4294967296) (hf : f < 4294967296) (h0 : f ≠ 0) : hasN (offN a f) f = false := by
  cases hh : hasN (offN a f) f with
  | false => rfl
  | true =>
    exfalso
    apply h0
    refine eq_bits hf (by omega) fun i hi => ?_
    rw [Nat.zero_testBit]
    cases hb : f.testBit i with
    | false => rfl
    | true =>
      have := (hasN_iff _ _ hf).1 hh i hi hb
      rw [offN_bit a f i ha hf, hb] at this
      simp at this
theorem has_same (x a o f : Nat) (ho : o < 4294967296) (h : ∀ i, i < 32 → o.testBit i = true → x.testBit i = a.testBit i) : hasN x o = hasN a o := by
  rw [Bool.eq_iff_iff, hasN_iff _ _ ho, hasN_iff _ _ ho]
  constructor
  · intro h' i hi hb
    rw [← h i hi hb]; exact h' i hi hb
  · intro h' i hi hb
    rw [h i hi hb]; exact h' i hi hb
theorem has_or_other (a f g : Nat) (hf : f < 4294967296) (hg : g < 4294967296) : hasN (orN a f) (offN g f) = hasN a (offN g f) := by
  refine has_same _ _ _ f (offN_lt hg) fun i hi hb => ?_
  rw [offN_bit g f i hg hf, Bool.and_eq_true, Bool.not_eq_true'] at hb
  rw [orN_bit, hb.2, Bool.or_false]
theorem has_off_other (a f g : Nat) (ha : a < 4294967296) (hf : f < 4294967296) (hg : g < 4294967296) : hasN (offN a f) (offN g f) = hasN a (offN g f) := by
  refine has_same _ _ _ f (offN_lt hg) fun i hi hb => ?_
  rw [offN_bit g f i hg hf, Bool.and_eq_true, Bool.not_eq_true'] at hb
  rw [offN_bit a f i ha hf, hb.2]; simp
theorem or_twice (a f : Nat) (ha : a < 4294967296) (hf : f < 4294967296) : orN (orN a f) f = orN a f := by
  refine eq_bits (orN_lt (orN_lt ha hf) hf) (orN_lt ha hf) fun i _ => ?_
  rw [orN_bit, orN_bit]; cases a.testBit i <;> cases f.testBit i <;> rfl
theorem or_off (a f : Nat) (ha : a < 4294967296) (hf : f < 4294967296) : offN (orN a f) f = offN a f := by
  refine eq_bits (offN_lt (orN_lt ha hf)) (offN_lt ha) fun i _ => ?_
  rw [offN_bit _ _ _ (orN_lt ha hf) hf, offN_bit _ _ _ ha hf, orN_bit]; cases a.testBit i <;> cases f.testBit i <;> rfl
theorem with_pure (a b c f g : Int) (h1 : 0 ≤ a ∧ a ≤ 4294967295) (h2 : 0 ≤ f ∧ f ≤ 4294967295) (h3 : 0 ≤ g ∧ g ≤ 4294967295) : whispererlaw06_AttrsWith.f a b c f g = some true := by
  obtain ⟨a, rfl⟩ := Int.eq_ofNat_of_zero_le h1.1
  obtain ⟨f, rfl⟩ := Int.eq_ofNat_of_zero_le h2.1
  obtain ⟨g, rfl⟩ := Int.eq_ofNat_of_zero_le h3.1
  have ha : a < 4294967296 := by omega
  have hf : f < 4294967296 := by omega
  have hg : g < 4294967296 := by omega
  have hX := orN_lt ha hf
  have hY := offN_lt (f := f) ha
  have hO := offN_lt (f := f) hg
  have eO : Go.bits .andNot .u32 (g : Int) f = ((offN g f : Nat) : Int) := Go.u32_andNot_nat g f hg hf
  have tail : (attrs_With.f ((orN a f : Nat) : Int) b c f true).bind (fun bt130 => (if (bt130.1 == ((orN a f : Nat) : Int) && (bt130.2.1 == b && (bt130.2.2 == c))) = true then ((attrs_With.f ((orN a f : Nat) : Int) b c f false).bind fun bt133 => (if (bt133.1 == ((offN a f : Nat) : Int) && (bt133.2.1 == b && (bt133.2.2 == c))) = true then (if b = b then (some (c == c)) else (some false)) else (some false))) else (some false))) = some true := by
    rw [won _ _ _ _ hX hf, or_twice a f ha hf]
    simp only [Option.bind_some, beq_self_eq_true, Bool.and_self, if_true]
    rw [woff _ _ _ _ hX hf, or_off a f ha hf]
    simp
  unfold whispererlaw06_AttrsWith.f
  rw [won a f b c ha hf]
  simp only [Option.bind_some]
  rw [woff a f b c ha hf]
  simp only [Option.bind_some]
  rw [with_alive]
  simp only [Option.bind_some, if_true]
  rw [whas _ f b c hX hf, has_or a f hf]
  simp only [Option.bind_some, if_true]
  rw [eO, whas _ _ b c hX hO, whas _ _ b c ha hO, whas _ _ b c hY hO, whas _ f b c hY hf, has_or_other a f g hf hg, has_off_other a f g ha hf hg]
  by_cases h0 : (f : Int) = 0
  · rw [if_pos h0]
    simp only [Option.bind_some, beq_self_eq_true, if_true]
    simpa using tail
  · rw [if_neg h0, has_off a f ha hf (by omega)]
    simp only [Option.bind_some, beq_self_eq_true, if_true, Bool.false_eq_true, if_false]
    simpa using tail
theorem AttrsWith_walk (a0_0 a0_1 a0_2 a1 a2 : Int) (w0_0 : (Lit.int .u32 a0_0).wf = true) (w0_1 : (Lit.int .u8 a0_1).wf = true) (w0_2 : (Lit.int .u8 a0_2).wf = true) (w1 : (Lit.int .u32 a1).wf = true) (w2 : (Lit.int .u32 a2).wf = true) (w : World) (HT : TabA w) :
    Calls Tryd.prog 7 #[.agg #[.int .u32 a0_0, .int .u8 a0_1, .int .u8 a0_2], .int .u32 a1, .int .u32 a2] w fun e w' => e = .returned (.bool true) ∧ Below w.heap.size w w' := by
  have hp := with_pure a0_0 a0_1 a0_2 a1 a2 (wf_u32 w0_0) (wf_u32 w1) (wf_u32 w2)
  by_cases h0 : a1 = 0
  · exact PAttrsWith.whispererlaw06_AttrsWith.callsZ a0_0 a0_1 a0_2 a1 a2 true rfl h0 w HT hp
  · exact PAttrsWith.whispererlaw06_AttrsWith.callsN a0_0 a0_1 a0_2 a1 a2 true rfl h0 w HT hp
end Go.Proofs.YtgdbkgjnonodjaaDoor.Hand
