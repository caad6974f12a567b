/- Flags as sets of bits. -/
import Derived.Test.YtgdbkgjnonodjaaDoorHandPlainA
namespace Go.Proofs.YtgdbkgjnonodjaaDoor.Hand
open Go.RowKit
set_option linter.unusedVariables false
set_option linter.unusedSimpArgs false
theorem bit_not (b i : Nat) (hb : b < 4294967296) : (4294967295 - b).testBit i = (decide (i < 32) && !b.testBit i) := by
  have := Nat.testBit_two_pow_sub_succ (n := 32) (x := b) hb i
  rw [show 2 ^ 32 - (b + 1) = 4294967295 - b by omega] at this
  exact this
def hasN (a f : Nat) : Bool := decide (a &&& f = f)
def orN (a f : Nat) : Nat := a ||| f
def offN (a f : Nat) : Nat := a &&& (4294967295 - f)
theorem orN_lt {a f : Nat} (ha : a < 4294967296) (hf : f < 4294967296) : orN a f < 4294967296 := Nat.or_lt_two_pow (n := 32) ha hf
theorem offN_lt {a f : Nat} (ha : a < 4294967296) : offN a f < 4294967296 := Nat.lt_of_le_of_lt Nat.and_le_left ha
theorem orN_bit (a f i : Nat) : (orN a f).testBit i = (a.testBit i || f.testBit i) := Nat.testBit_or a f i
theorem high_bit {a : Nat} (ha : a < 4294967296) {i : Nat} (hi : ¬ i < 32) : a.testBit i = false := Nat.testBit_lt_two_pow (Nat.lt_of_lt_of_le (show a < 2 ^ 32 from ha) (Nat.pow_le_pow_right (show 0 < 2 by decide) (by omega)))
theorem offN_bit (a f i : Nat) (ha : a < 4294967296) (hf : f < 4294967296) : (offN a f).testBit i = (a.testBit i && !f.testBit i) := by
  unfold offN
  rw [Nat.testBit_and, bit_not f i hf]
  by_cases hi : i < 32
  · simp [hi]
  · rw [high_bit ha hi]; simp
theorem hasN_iff (a f : Nat) (hf : f < 4294967296) : hasN a f = true ↔ ∀ i, i < 32 → f.testBit i = true → a.testBit i = true := by
  unfold hasN
  rw [decide_eq_true_eq]
  constructor
  · intro h i _ hi
    rw [← h, Nat.testBit_and] at hi
    simp at hi
    exact hi.1
  · intro h
    apply Nat.eq_of_testBit_eq
    intro i
    rw [Nat.testBit_and]
    by_cases hi : i < 32
    · cases hb : f.testBit i
      · simp
      · simp [h i hi hb]
    · rw [high_bit hf hi]; simp
theorem eq_bits {a b : Nat} (ha : a < 4294967296) (hb : b < 4294967296) (h : ∀ i, i < 32 → a.testBit i = b.testBit i) : a = b := by
  apply Nat.eq_of_testBit_eq
  intro i
  by_cases hi : i < 32
  · exact h i hi
  · rw [high_bit ha hi, high_bit hb hi]
theorem bit_div (x i : Nat) : x.testBit i = decide (x / 2 ^ i % 2 = 1) := Nat.testBit_eq_decide_div_mod_eq
theorem mod_bit (r j : Nat) : r % 2 ^ (j + 1) = r % 2 ^ j + (if r.testBit j then 2 ^ j else 0) := by
  rw [Nat.pow_succ, Nat.mod_mul, bit_div]
  by_cases h : r / 2 ^ j % 2 = 1
  · simp [h]
  · have : r / 2 ^ j % 2 = 0 := by omega
    simp [this]
end Go.Proofs.YtgdbkgjnonodjaaDoor.Hand
