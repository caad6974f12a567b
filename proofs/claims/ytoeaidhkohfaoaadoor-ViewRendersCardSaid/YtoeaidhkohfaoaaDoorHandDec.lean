/- whispererref06.Decimal in closed form. -/
import Derived.Test.YtoeaidhkohfaoaaDoorPDecimalx1
import Derived.Test.YtoeaidhkohfaoaaDoorHandPlain
namespace Go.Proofs.YtoeaidhkohfaoaaDoor.Hand
open Go.RowKit Go.Proofs.YtoeaidhkohfaoaaDoorW.PrintWords Go.Proofs.YtoeaidhkohfaoaaDoorW.PrintLast
set_option linter.unusedVariables false
set_option linter.unusedSimpArgs false

theorem w64 {x : Int} (h0 : -9223372036854775808 ≤ x) (h1 : x ≤ 9223372036854775807) : wrap64 x = x := by unfold wrap64; omega
def ba (l : List UInt8) : ByteArray := ⟨l.toArray⟩
theorem ba_data (s : ByteArray) : ba s.data.toList = s := rfl
theorem data_ba (l : List UInt8) : (ba l).data.toList = l := by simp [ba]
theorem digit_extract : ∀ d : Nat, d < 16 → (⟨#[48, 49, 50, 51, 52, 53, 54, 55, 56, 57, 97, 98, 99, 100, 101, 102]⟩ : ByteArray).extract d (d + 1) = ⟨#[dgt d]⟩ := by decide +kernel
open PDecimal in
theorem dec_step (b : Nat) (hb : 2 ≤ b) (h16 : b ≤ 16) (k u : Nat) (acc : ByteArray) (hu : u < 9223372036854775808) (hacc : acc.size ≤ 1000) (hgo : 0 < u ∨ acc.data.toList = []) :
    whispererref06_Decimal.l0 (k + 1) (u : Int) (b : Int) acc = whispererref06_Decimal.l0 k ((u / b : Nat) : Int) (b : Int) (ba (dgt (u % b) :: acc.data.toList)) := by
  have hm : u % b < b := Nat.mod_lt _ (by omega)
  have e1 : Int.tmod (u : Int) (b : Int) = ((u % b : Nat) : Int) := by rw [Int.tmod_eq_emod_of_nonneg (by omega)]; push_cast; rfl
  have e2 : Int.tdiv (u : Int) (b : Int) = ((u / b : Nat) : Int) := by rw [Int.tdiv_eq_ediv_of_nonneg (by omega)]; push_cast; rfl
  have hd : u / b ≤ u := Nat.div_le_self _ _
  generalize u % b = r at *
  generalize u / b = q at *
  have e3 : wrap64 ((r : Int) + 1) = ((r + 1 : Nat) : Int) := by rw [w64 (by omega) (by omega)]; omega
  have e4 : wrap64 (q : Int) = (q : Int) := w64 (by omega) (by omega)
  have e5 : (⟨#[dgt r]⟩ : ByteArray) ++ acc = ba (dgt r :: acc.data.toList) := by apply ba_ext; rw [ba_app, data_ba]; rfl
  have step : (if (b : Int) = 0 then (none : Option ByteArray) else (if 0 ≤ (Int.tmod (u : Int) (b : Int)) then (if (Int.tmod (u : Int) (b : Int)) ≤ (wrap64 ((Int.tmod (u : Int) (b : Int)) + 1)) then (if (wrap64 ((Int.tmod (u : Int) (b : Int)) + 1)) ≤ 16 then (if ((⟨#[48, 49, 50, 51, 52, 53, 54, 55, 56, 57, 97, 98, 99, 100, 101, 102]⟩ : ByteArray).extract ((Int.tmod (u : Int) (b : Int)) : Int).toNat ((wrap64 ((Int.tmod (u : Int) (b : Int)) + 1)) : Int).toNat).size + acc.size ≤ 9223372036854775807 then (whispererref06_Decimal.l0 k (wrap64 (Int.tdiv (u : Int) (b : Int))) (b : Int) (((⟨#[48, 49, 50, 51, 52, 53, 54, 55, 56, 57, 97, 98, 99, 100, 101, 102]⟩ : ByteArray).extract ((Int.tmod (u : Int) (b : Int)) : Int).toNat ((wrap64 ((Int.tmod (u : Int) (b : Int)) + 1)) : Int).toNat) ++ acc)) else (none)) else (none)) else (none)) else (none))) = whispererref06_Decimal.l0 k (q : Int) (b : Int) (ba (dgt r :: acc.data.toList)) := by
    rw [e1, e2, e3, e4, Int.toNat_natCast, Int.toNat_natCast, digit_extract r (by omega), e5, if_neg (by omega), if_pos (by omega), if_pos (by omega), if_pos (by omega), if_pos (by show 1 + acc.size ≤ _; omega)]
  simp only [whispererref06_Decimal.l0]
  by_cases h0 : (u : Int) > 0
  · rw [if_pos h0]
    exact step
  · have ha : acc.data.toList = [] := by
      rcases hgo with h | h
      · exact absurd (by omega) h0
      · exact h
    rw [if_neg h0, ByteArray.toList_eq, if_pos ha]
    exact step
open PDecimal in
theorem dec_end (b k : Nat) (acc : ByteArray) (h : acc.data.toList ≠ []) : whispererref06_Decimal.l0 (k + 1) 0 (b : Int) acc = some acc := by
  simp only [whispererref06_Decimal.l0]
  rw [if_neg (by decide), ByteArray.toList_eq, if_neg h]
open PDecimal in
theorem dec_run (b : Nat) (hb : 2 ≤ b) (h16 : b ≤ 16) : ∀ (u k : Nat) (acc : List UInt8), u < 9223372036854775808 → (digs b u).length ≤ k → acc.length + k ≤ 1000 → (0 < u ∨ acc = []) →
    whispererref06_Decimal.l0 (k + 1) (u : Int) (b : Int) (ba acc) = some (ba (digs b u ++ acc)) := by
  intro u
  induction u using Nat.strongRecOn with
  | _ u ih =>
    intro k acc hu hk hacc hgo
    rw [digs] at hk ⊢
    by_cases h : u < b
    · rw [dif_pos (.inl h)] at hk ⊢
      obtain ⟨k, rfl⟩ : ∃ m, k = m + 1 := ⟨k - 1, by simp at hk; omega⟩
      rw [dec_step b hb h16 _ u (ba acc) hu (by show acc.toArray.size ≤ _; simp; omega) (by rw [data_ba]; exact hgo), data_ba, Nat.div_eq_of_lt h, Nat.mod_eq_of_lt h]
      exact dec_end b k _ (by rw [data_ba]; simp)
    · rw [dif_neg (by omega)] at hk ⊢
      rw [List.length_append, List.length_singleton] at hk
      obtain ⟨k, rfl⟩ : ∃ m, k = m + 1 := ⟨k - 1, by omega⟩
      rw [dec_step b hb h16 _ u (ba acc) hu (by show acc.toArray.size ≤ _; simp; omega) (by rw [data_ba]; exact hgo), data_ba]
      have hpos : 0 < u / b := Nat.div_pos (by omega) (by omega)
      have := ih (u / b) (Nat.div_lt_self (by omega) (by omega)) k (dgt (u % b) :: acc) (by have := Nat.div_le_self u b; omega) (by omega) (by simp; omega) (.inl hpos)
      rw [this]
      simp
theorem dec_eq (b u k : Nat) (hb : 2 ≤ b) (h16 : b ≤ 16) (hu : u < 9223372036854775808) (hk : (digs b u).length ≤ k) (hk2 : k ≤ 1000) : PDecimal.whispererref06_Decimal.f (k + 1) (u : Int) (b : Int) = some (ba (digs b u)) := by
  unfold PDecimal.whispererref06_Decimal.f
  have := dec_run b hb h16 u k [] hu hk (by simp; omega) (.inr rfl)
  rw [List.append_nil] at this
  exact this

end Go.Proofs.YtoeaidhkohfaoaaDoor.Hand
