/- EscseqNexts: of any bytes escseq.Next answers as the document's function, and Begins tells whether that is the error 7. For every slice of bytes, no condition. -/
import Derived.Test.YtjlfpkgnkgbhiaaPEscseqNextsx4
namespace Go.Proofs.Ytjlfpkgnkgbhiaa.Pure
open Go.RowKit Go.Proofs.Ytjlfpkgnkgbhiaa.PEscseqNexts Go.Proofs.Ytjlfpkgnkgbhiaa.Hand Go.Proofs.YtjlfpkgnkgbhiaaW.PrintWords Go.Proofs.YtjlfpkgnkgbhiaaW.PrintLast
set_option linter.unusedSimpArgs false

theorem alive_ok : Hand.whispererlaw09_alive.f = some true := rfl

theorem rd_nat (l : List Int) (i : Nat) : rd l (i : Int) = l.getD i 0 := by simp [rd]
theorem rd_one (l : List Int) : rd l 1 = l.getD 1 0 := rfl

/-- The document's keys are the map's. -/
theorem key_ok (s : ByteArray) (t : List UInt8) (ht : s.toList = t) (k : Nat) (hk : 5 ≤ k) : whispererref09_key.f k s = some (((kindL (27 :: t)).getD 15), 0) := by
  obtain ⟨k, rfl⟩ : ∃ m, k = m + 5 := ⟨k - 5, by omega⟩
  unfold whispererref09_key.f
  simp only [whispererref09_key.j0, whispererref09_key.j1, whispererref09_key.j2, whispererref09_key.j3, ht]
  clear hk ht
  by_cases h1 : t = [91, 67]; · subst h1; rfl
  by_cases h2 : t = [79, 67]; · subst h2; rfl
  by_cases h3 : t = [91, 68]; · subst h3; rfl
  by_cases h4 : t = [79, 68]; · subst h4; rfl
  by_cases h5 : t = [91, 72]; · subst h5; rfl
  by_cases h6 : t = [79, 72]; · subst h6; rfl
  by_cases h7 : t = [91, 49, 126]; · subst h7; rfl
  by_cases h8 : t = [91, 55, 126]; · subst h8; rfl
  by_cases h9 : t = [91, 70]; · subst h9; rfl
  by_cases h10 : t = [79, 70]; · subst h10; rfl
  by_cases h11 : t = [91, 52, 126]; · subst h11; rfl
  by_cases h12 : t = [91, 56, 126]; · subst h12; rfl
  by_cases h13 : t = [91, 51, 126]; · subst h13; rfl
  by_cases h14 : t = [91, 50, 48, 48, 126]; · subst h14; rfl
  by_cases h15 : t = [91, 50, 48, 49, 126]; · subst h15; rfl
  have e : kindL (27 :: t) = none := by
    unfold kindL seqs
    simp [List.find?_cons, h1, h2, h3, h4, h5, h6, h7, h8, h9, h10, h11, h12, h13, h14, h15, Ne.symm h1, Ne.symm h2, Ne.symm h3, Ne.symm h4, Ne.symm h5, Ne.symm h6, Ne.symm h7, Ne.symm h8, Ne.symm h9, Ne.symm h10, Ne.symm h11, Ne.symm h12, Ne.symm h13, Ne.symm h14, Ne.symm h15]
  rw [e]
  simp [h1, h2, h3, h4, h5, h6, h7, h8, h9, h10, h11, h12, h13, h14, h15]

theorem str_tail (l : List Int) (i : Nat) (h0 : l.getD 0 0 = 27) (hl : 0 < l.length) : (strOfNums (l.take (i + 1))).data.toList = 27 :: (strOfNums ((l.take (i + 1)).drop 1)).toList := by
  rw [ByteArray.toList_eq]
  cases l with
  | nil => simp at hl
  | cons a r =>
    have : a = 27 := by simpa using h0
    subst this
    simp [strOfNums]

/-- The end of the document's function: behind the parameters and the others. -/
theorem tail_ok (l : List Int) (d i k : Nat) (h0 : l.getD 0 0 = 27) (hd : l.length = i + d) (hm : l.length ≤ 9223372036854775806) (hk : 6 ≤ k) :
    whispererref09_Next.j4 k l i 15 0 = some (match d with
      | 0 => (0, 0, (l.length : Int), 7)
      | _ + 1 => if 64 ≤ l.getD i 0 ∧ l.getD i 0 ≤ 126 then ((kindL (strOfNums (l.take (i + 1))).data.toList).getD 15, 0, (i : Int) + 1, 0) else (15, 0, (i : Int), 0)) := by
  obtain ⟨k, rfl⟩ : ∃ m, k = m + 1 := ⟨k - 1, by omega⟩
  simp only [whispererref09_Next.j4]
  cases d with
  | zero => rw [if_pos (by omega)]; simp [hd]
  | succ d =>
    rw [if_neg (by omega), if_pos (by omega), if_pos (by omega), rd_nat]
    have hw : wrap64 ((i : Int) + 1) = (i : Int) + 1 := by unfold wrap64; omega
    by_cases h1 : l.getD i 0 < 64
    · rw [if_pos h1]; simp only []; rw [if_neg (by omega)]
    · by_cases h2 : l.getD i 0 > 126
      · rw [if_neg h1, if_pos h2]; simp only []; rw [if_neg (by omega)]
      · rw [if_neg h1, if_neg h2, hw, if_pos (by omega), if_pos (by omega), key_ok _ _ rfl k (by omega)]
        simp only [Option.bind_some]
        rw [if_pos (by omega), show ((i : Int) + 1).toNat = i + 1 from by omega, str_tail l i h0 (by omega)]

theorem two_ok (l : List Int) (h0 : l.getD 0 0 = 27) (h1 : l.getD 1 0 = 91) (hm : l.length ≤ 9223372036854775806) (hl : 2 ≤ l.length) : ∀ (d i k : Nat), 2 ≤ i → l.length = i + d → d + 8 ≤ k →
    whispererref09_Next.l1 k l i 15 0 = some (nextGo l d i true)
  | d, i, k, hi, hd, hk => by
    obtain ⟨k, rfl⟩ : ∃ m, k = m + 1 := ⟨k - 1, by omega⟩
    have ht := tail_ok l d i k h0 hd hm (by omega)
    simp only [whispererref09_Next.l1]
    rw [if_pos (by omega), rd_one, if_pos h1]
    cases d with
    | zero => rw [if_neg (by omega), ht]; rfl
    | succ d =>
      rw [if_pos (by omega)]
      have hw : wrap64 ((i : Int) + 1) = ((i + 1 : Nat) : Int) := by unfold wrap64; omega
      rw [nextGo_succ, rd_nat, hw]
      by_cases hf : i < 34
      · rw [if_pos (by omega), if_pos (by omega)]
        by_cases ha : l.getD i 0 ≥ 32
        · rw [if_pos ha]
          by_cases hb : l.getD i 0 ≤ 47
          · rw [if_pos hb, two_ok l h0 h1 hm hl d (i + 1) k (by omega) (by omega) (by omega), if_neg (by omega), if_neg (by omega), if_neg (by simp), if_pos ⟨ha, hb⟩]
          · rw [if_neg hb, ht]; simp only []
            by_cases hA : 64 ≤ l.getD i 0 ∧ l.getD i 0 ≤ 126
            · rw [if_pos hA, if_pos hA]
            · rw [if_neg hA, if_neg hA, if_neg (by omega), if_neg (by simp), if_neg (by omega)]
        · rw [if_neg ha, ht]; simp only []
          rw [if_neg (by omega), if_neg (by omega), if_neg (by omega), if_neg (by simp), if_neg (by omega)]
      · rw [if_neg (by omega), ht]; simp only []
        by_cases hA : 64 ≤ l.getD i 0 ∧ l.getD i 0 ≤ 126
        · rw [if_pos hA, if_pos hA]
        · rw [if_neg hA, if_neg hA, if_pos (.inr (by omega))]

theorem one_ok (l : List Int) (h0 : l.getD 0 0 = 27) (h1 : l.getD 1 0 = 91) (hm : l.length ≤ 9223372036854775806) (hl : 2 ≤ l.length) : ∀ (d i k : Nat), 2 ≤ i → l.length = i + d → d + 12 ≤ k →
    whispererref09_Next.l0 k l i 15 0 = some (nextGo l d i false)
  | d, i, k, hi, hd, hk => by
    obtain ⟨k, rfl⟩ : ∃ m, k = m + 1 := ⟨k - 1, by omega⟩
    have ht : whispererref09_Next.j2 k l i 15 0 = some (nextGo l d i true) := by
      obtain ⟨k2, e⟩ : ∃ m, k = m + 1 := ⟨k - 1, by omega⟩
      rw [e]
      simp only [whispererref09_Next.j2]
      exact two_ok l h0 h1 hm hl d i k2 hi hd (by omega)
    simp only [whispererref09_Next.l0]
    rw [if_pos (by omega), rd_one, if_pos h1]
    cases d with
    | zero => rw [if_neg (by omega), ht]; rfl
    | succ d =>
      rw [if_pos (by omega)]
      have hw : wrap64 ((i : Int) + 1) = ((i + 1 : Nat) : Int) := by unfold wrap64; omega
      rw [nextGo_succ] at ht
      rw [nextGo_succ, rd_nat, hw, ht]
      by_cases hf : i < 34
      · rw [if_pos (by omega), if_pos (by omega)]
        by_cases ha : l.getD i 0 ≥ 48
        · rw [if_pos ha]
          by_cases hb : l.getD i 0 ≤ 63
          · rw [if_pos hb, one_ok l h0 h1 hm hl d (i + 1) k (by omega) (by omega) (by omega), if_neg (by omega), if_neg (by omega), if_pos ⟨ha, hb, rfl⟩]
          · rw [if_neg hb, if_neg (c := 48 ≤ _ ∧ _ ∧ true = false) (by simp), if_neg (c := 48 ≤ _ ∧ _ ∧ false = false) (by omega)]
        · rw [if_neg ha, if_neg (c := 48 ≤ _ ∧ _ ∧ true = false) (by simp), if_neg (c := 48 ≤ _ ∧ _ ∧ false = false) (by omega)]
      · rw [if_neg (by omega)]
        by_cases hA : 64 ≤ l.getD i 0 ∧ l.getD i 0 ≤ 126
        · rw [if_pos hA, if_pos hA]
        · rw [if_neg hA, if_neg hA, if_pos (.inr (by omega)), if_pos (.inr (by omega))]

theorem ref_ok (l : List Int) (hm : l.length ≤ 9223372036854775806) (k : Nat) (hk : l.length + 20 ≤ k) : whispererref09_Next.f k l = some (nextL l) := by
  obtain ⟨k, rfl⟩ : ∃ m, k = m + 1 := ⟨k - 1, by omega⟩
  unfold whispererref09_Next.f nextL
  by_cases hz : l.length = 0
  · rw [if_pos (by omega), if_pos hz]
  rw [if_neg (by omega), if_neg hz, if_pos (by omega), show rd l 0 = l.getD 0 0 from rfl]
  by_cases h0 : l.getD 0 0 = 27
  · rw [if_pos h0, if_neg (c := l.getD 0 0 ≠ 27) (fun x => x h0)]
    by_cases hl1 : l.length = 1
    · rw [if_pos (by omega), if_neg (by omega), hl1]
      show _ = some (nextGo l 0 2 false)
      unfold nextGo
      rw [hl1]; rfl
    · rw [if_neg (by omega), if_pos (by omega), rd_one]
      by_cases h91 : l.getD 1 0 = 91
      · rw [if_pos h91, if_neg (fun h => h.2.1 h91)]
        simp only [whispererref09_Next.j0]
        rw [if_neg (by simp)]
        exact one_ok l h0 h91 hm (by omega) (l.length - 2) 2 k (by omega) (by omega) (by omega)
      · rw [if_neg h91]
        by_cases h79 : l.getD 1 0 = 79
        · rw [if_neg (fun h => h.2.2 h79), h79]
          obtain ⟨k, rfl⟩ : ∃ m, k = m + 3 := ⟨k - 3, by omega⟩
          simp only [whispererref09_Next.j0]
          rw [if_neg (by decide)]
          simp only [whispererref09_Next.l0]
          rw [if_pos (by omega), rd_one, if_neg h91]
          simp only [whispererref09_Next.j2, whispererref09_Next.l1]
          rw [if_pos (by omega), rd_one, if_neg h91]
          obtain ⟨d, hd⟩ : ∃ d, l.length = 2 + d := ⟨l.length - 2, by omega⟩
          rw [show l.length - 2 = d from by omega]
          have ht := tail_ok l d 2 k h0 hd hm (by omega)
          refine ht.trans ?_
          cases d with
          | zero => rfl
          | succ d =>
            rw [nextGo_succ]
            simp only []
            by_cases hA : 64 ≤ l.getD 2 0 ∧ l.getD 2 0 ≤ 126
            · rw [if_pos hA, if_pos hA]
            · rw [if_neg hA, if_neg hA, if_pos (.inl h79)]
        · rw [if_pos ⟨by omega, h91, h79⟩]
          simp only [whispererref09_Next.j0]
          rw [if_pos (by simpa using h79)]
  · rw [if_neg h0, if_pos h0]

theorem EscseqNexts : whispererlaw09_EscseqNexts.Pure := by
  intro l hl _ _
  refine ⟨l.length + 20, ?_⟩
  unfold whispererlaw09_EscseqNexts.f
  rw [alive_ok]
  by_cases h : (l.length : Int) > 3000
  · rw [if_pos h]; rfl
  · rw [if_neg h, ref_ok l (by omega) _ (Nat.le_refl _)]
    unfold escseq_Begins.f Hand.escseq_Next.f
    simp
