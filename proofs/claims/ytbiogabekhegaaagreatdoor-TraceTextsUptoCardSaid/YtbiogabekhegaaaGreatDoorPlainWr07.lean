/- The document's Written: what was written. -/
import Derived.Test.YtbiogabekhegaaaGreatDoorPWrittenx1
import Derived.Test.YtbiogabekhegaaaGreatDoorHandWritten07
namespace Go.Proofs.YtbiogabekhegaaaGreatDoor.Hand
open Go.RowKit Go.Proofs.YtbiogabekhegaaaGreatDoorW.PrintWords Go.Proofs.YtbiogabekhegaaaGreatDoorW.PrintLast
open Go.Proofs.YtbiogabekhegaaaGreatDoor.PWritten (S27 S25 k27 z27 rd_T27 at_T27 k27_mk whispererref07_Written.l0 whispererref07_Written.l1 whispererref07_Written.f)
set_option linter.unusedVariables false
set_option linter.unusedSimpArgs false
theorem wrE_two {X : S27} (h : X.f0 = 2) : wrE X = X.f2.take (min X.f3 X.f2.length).toNat := if_pos h
theorem wrE_other {X : S27} (h : X.f0 ≠ 2) : wrE X = [] := if_neg h
theorem wrE_drop {X : S27} {j : Nat} (hj : j < (wrE X).length) : X.f0 = 2 ∧ (j : Int) < (X.f2.length : Int) ∧ (j : Int) < X.f3 ∧ (wrE X).drop j = rd X.f2 (j : Int) :: (wrE X).drop (j + 1) := by
  by_cases h : X.f0 = 2
  · rw [wrE_two h] at hj ⊢
    have hl : j < (min X.f3 X.f2.length).toNat ∧ j < X.f2.length := by
      rw [List.length_take] at hj
      omega
    refine ⟨h, by omega, by omega, ?_⟩
    rw [List.drop_eq_getElem_cons hj, List.getElem_take]
    congr 1
    unfold rd
    rw [Int.toNat_natCast, List.getD_eq_getElem?_getD, List.getElem?_eq_getElem hl.2]
    rfl
  · rw [wrE_other h] at hj
    exact absurd hj (Nat.not_lt_zero _)
theorem wrE_end {X : S27} {j : Nat} (hj : j = (wrE X).length) : X.f0 ≠ 2 ∨ ¬ ((j : Int) < (X.f2.length : Int)) ∨ ¬ ((j : Int) < X.f3) := by
  by_cases h : X.f0 = 2
  · rw [wrE_two h, List.length_take] at hj
    by_cases h2 : (j : Int) < (X.f2.length : Int)
    · exact .inr (.inr (by omega))
    · exact .inr (.inl h2)
  · exact .inl h
theorem wr_w64 (j : Nat) (h : j ≤ 1000000000) : wrap64 ((j : Int) + 1) = ((j + 1 : Nat) : Int) := by unfold wrap64; omega
theorem wr_inner (xs : List S27) (i M : Nat) (hM : M = 1000000000) (hi : i < xs.length) (hi2 : i ≤ M) (R : List Int) (d : Nat) : ∀ (j : Nat) (acc : List Int), j + d = (wrE (rd_T27 xs i)).length → j + d ≤ M → acc.length + d ≤ M →
    (∃ K, whispererref07_Written.l0 K xs (acc ++ (wrE (rd_T27 xs i)).drop j) ((i + 1 : Nat) : Int) = some R) → ∃ K, whispererref07_Written.l1 K xs acc i j = some R := by
  have hw := wr_w64 i (Nat.le_trans hi2 (Nat.le_of_eq hM))
  have hi0 : (0 : Int) ≤ (i : Int) := Int.natCast_nonneg i
  have hi1 : (i : Int) < (xs.length : Int) := Int.ofNat_lt.2 hi
  induction d with
  | zero =>
    rintro j acc hj hjm ha ⟨K, hK⟩
    refine ⟨K + 1, ?_⟩
    rw [List.drop_eq_nil_of_le (by omega), List.append_nil] at hK
    simp only [whispererref07_Written.l1]
    rw [if_pos hi0, if_pos hi1, hw]
    by_cases h0 : (rd_T27 xs i).f0 = 2
    · rw [if_pos h0]
      by_cases h1 : (j : Int) < ((rd_T27 xs i).f2.length : Int)
      · rw [if_pos h1]
        by_cases h2 : (j : Int) < (rd_T27 xs i).f3
        · rcases wrE_end (X := rd_T27 xs i) (j := j) (by omega) with h | h | h
          · exact absurd h0 h
          · exact absurd h1 h
          · exact absurd h2 h
        · rw [if_neg h2]; exact hK
      · rw [if_neg h1]; exact hK
    · rw [if_neg h0]; exact hK
  | succ d ih =>
    rintro j acc hj hjm ha ⟨K, hK⟩
    obtain ⟨h0, h1, h2, h3⟩ := wrE_drop (X := rd_T27 xs i) (j := j) (by omega)
    have hac : acc.length < 140737488355328 := Nat.lt_of_le_of_lt (show acc.length ≤ M from Nat.le_trans (Nat.le_add_right _ _) ha) (by rw [hM]; decide)
    have e : j + 1 + d = j + (d + 1) := by rw [Nat.add_assoc, Nat.add_comm 1 d]
    have hla : (acc ++ [rd (rd_T27 xs i).f2 j]).length + d ≤ M := by
      rw [List.length_append]
      refine Nat.le_trans (Nat.le_of_eq ?_) ha
      rw [List.length_cons, List.length_nil, Nat.add_assoc, Nat.zero_add, Nat.add_comm 1 d]
    obtain ⟨K', hK'⟩ := ih (j + 1) (acc ++ [rd (rd_T27 xs i).f2 j]) (e.trans hj) (Nat.le_trans (Nat.le_of_eq e) hjm) hla ⟨K, by rw [List.append_assoc]; rw [h3] at hK; exact hK⟩
    have hwj : wrap64 ((j : Int) + 1) = ((j + 1 : Nat) : Int) := wr_w64 j (Nat.le_trans (Nat.le_trans (Nat.le_add_right _ _) hjm) (Nat.le_of_eq hM))
    have hj0 : (0 : Int) ≤ (j : Int) := Int.natCast_nonneg j
    refine ⟨K' + 1, ?_⟩
    simp only [whispererref07_Written.l1]
    rw [if_pos hi0, if_pos hi1, if_pos h0, if_pos h1, if_pos h2, if_pos hj0, if_pos hac, hwj]
    exact hK'
theorem wr_outer (xs : List S27) (M : Nat) (hM : M = 1000000000) (hn : xs.length ≤ M) (d : Nat) : ∀ (i : Nat) (acc : List Int), i + d = xs.length → acc.length + (wrL (xs.drop i)).length ≤ M → ∃ K, whispererref07_Written.l0 K xs acc i = some (acc ++ wrL (xs.drop i)) := by
  induction d with
  | zero =>
    intro i acc hi ha
    refine ⟨1, ?_⟩
    simp only [whispererref07_Written.l0]
    rw [if_neg (by omega), List.drop_eq_nil_of_le (by omega)]
    simp [wrL]
  | succ d ih =>
    intro i acc hi ha
    have hlt : i < xs.length := by omega
    have hlI : (i : Int) < (xs.length : Int) := by omega
    have hdr : xs.drop i = rd_T27 xs i :: xs.drop (i + 1) := by
      rw [List.drop_eq_getElem_cons hlt]
      congr 1
      unfold rd_T27
      rw [Int.toNat_natCast, List.getD_eq_getElem?_getD, List.getElem?_eq_getElem hlt]
      rfl
    have hw : wrL (xs.drop i) = wrE (rd_T27 xs i) ++ wrL (xs.drop (i + 1)) := by rw [hdr]; rfl
    rw [hw, List.length_append] at ha
    obtain ⟨K, hK⟩ := ih (i + 1) (acc ++ wrE (rd_T27 xs i)) (by omega) (by rw [List.length_append]; omega)
    obtain ⟨K', hK'⟩ := wr_inner xs i M hM hlt (by omega) (acc ++ wrE (rd_T27 xs i) ++ wrL (xs.drop (i + 1))) (wrE (rd_T27 xs i)).length 0 acc (by omega) (by omega) (by omega) ⟨K, by rw [List.drop_zero]; exact hK⟩
    refine ⟨K' + 1, ?_⟩
    simp only [whispererref07_Written.l0]
    rw [if_pos hlI, hw, ← List.append_assoc]
    exact hK'
theorem refWritten_ok (xs : List S27) (A : Option Addr) (c : Nat) (w : World) (hx : Kd.C k27 w A xs.length xs) (hc : xs.length ≤ c) (hn : xs.length ≤ 1000000000) (hl : (wrL xs).length ≤ 1000000000) :
    Calls Tryz.prog 21 #[.slice A xs.length c] w fun e w' => ∃ v, e = .returned v ∧ Kd.R (Kd.int .u8) 5 w' w.heap.size (fun _ => True) v (wrL xs) ∧ Below w.heap.size w w' := by
  obtain ⟨K, hK⟩ := wr_outer xs 1000000000 rfl hn xs.length 0 [] (by omega) (by rw [List.drop_zero]; simpa using hl)
  rw [List.drop_zero, List.nil_append] at hK
  exact Go.Proofs.YtbiogabekhegaaaGreatDoor.PWritten.whispererref07_Written.calls K A c xs (wrL xs) w hx hc hK
end Go.Proofs.YtbiogabekhegaaaGreatDoor.Hand
