/- The document's own Next of a sequence, in closed form. -/
import Derived.Test.YtmdeehblmkpddaaDoorPNextRx2
import Derived.Test.YtmdeehblmkpddaaDoorPlainEsc
import Derived.Test.YtmdeehblmkpddaaDoorHandTabOf14
import Derived.Test.YtmdeehblmkpddaaDoorPPrintableRx1
import Derived.Test.YtmdeehblmkpddaaDoorPCharsx1
import Derived.Deep.RegionHeld3
import Derived.OwnWalk
import Derived.LoopTactic
namespace Go.Proofs.YtmdeehblmkpddaaDoor.Hand
open Go.RowKit Go.Proofs.YtmdeehblmkpddaaDoor.PNextR Go.Proofs.YtmdeehblmkpddaaDoorW.PrintWords Go.Proofs.YtmdeehblmkpddaaDoorW.PrintLast
set_option linter.unusedVariables false
set_option linter.unusedSimpArgs false
theorem rd_nat (l : List Int) (i : Nat) : rd l (i : Int) = l.getD i 0 := by simp [rd]
theorem rd_one (l : List Int) : rd l 1 = l.getD 1 0 := rfl

/-- The document's keys are the map's. -/
theorem key_ok (s : ByteArray) (t : List UInt8) (ht : s.toList = t) (k : Nat) (hk : 5 ≤ k) : whispererref09_key.f k s = some (((kindL (27 :: t)).getD 15), 0) := by
  obtain ⟨k, rfl⟩ : ∃ m, k = m + 5 := ⟨k - 5, by omega⟩
  unfold whispererref09_key.f
  simp only [whispererref09_key.j0, whispererref09_key.j1, whispererref09_key.j2, whispererref09_key.j3, ht]
  clear hk ht
  by_cases h1 : t = [91, 67]; · subst h1; rfl
  by_cases h2 : t = [79, 67]; · subst h2; rfl
  by_cases h3 : t = [91, 68]; · subst h3; rfl
  by_cases h4 : t = [79, 68]; · subst h4; rfl
  by_cases h5 : t = [91, 72]; · subst h5; rfl
  by_cases h6 : t = [79, 72]; · subst h6; rfl
  by_cases h7 : t = [91, 49, 126]; · subst h7; rfl
  by_cases h8 : t = [91, 55, 126]; · subst h8; rfl
  by_cases h9 : t = [91, 70]; · subst h9; rfl
  by_cases h10 : t = [79, 70]; · subst h10; rfl
  by_cases h11 : t = [91, 52, 126]; · subst h11; rfl
  by_cases h12 : t = [91, 56, 126]; · subst h12; rfl
  by_cases h13 : t = [91, 51, 126]; · subst h13; rfl
  by_cases h14 : t = [91, 50, 48, 48, 126]; · subst h14; rfl
  by_cases h15 : t = [91, 50, 48, 49, 126]; · subst h15; rfl
  have e : kindL (27 :: t) = none := by
    unfold kindL seqs
    simp [List.find?_cons, h1, h2, h3, h4, h5, h6, h7, h8, h9, h10, h11, h12, h13, h14, h15, Ne.symm h1, Ne.symm h2, Ne.symm h3, Ne.symm h4, Ne.symm h5, Ne.symm h6, Ne.symm h7, Ne.symm h8, Ne.symm h9, Ne.symm h10, Ne.symm h11, Ne.symm h12, Ne.symm h13, Ne.symm h14, Ne.symm h15]
  rw [e]
  simp [h1, h2, h3, h4, h5, h6, h7, h8, h9, h10, h11, h12, h13, h14, h15]

theorem str_tail (l : List Int) (i : Nat) (h0 : l.getD 0 0 = 27) (hl : 0 < l.length) : (strOfNums (l.take (i + 1))).data.toList = 27 :: (strOfNums ((l.take (i + 1)).drop 1)).toList := by
  rw [ByteArray.toList_eq]
  cases l with
  | nil => simp at hl
  | cons a r =>
    have : a = 27 := by simpa using h0
    subst this
    simp [strOfNums]

/-- The end of the document's function: behind the parameters and the others. -/
theorem tail_ok (l : List Int) (d i k : Nat) (h0 : l.getD 0 0 = 27) (hd : l.length = i + d) (hm : l.length ≤ 9223372036854775806) (hk : 6 ≤ k) :
    whispererref09_Next.j4 k l i 15 0 = some (match d with
      | 0 => (0, 0, (l.length : Int), 7)
      | _ + 1 => if 64 ≤ l.getD i 0 ∧ l.getD i 0 ≤ 126 then ((kindL (strOfNums (l.take (i + 1))).data.toList).getD 15, 0, (i : Int) + 1, 0) else (15, 0, (i : Int), 0)) := by
  obtain ⟨k, rfl⟩ : ∃ m, k = m + 1 := ⟨k - 1, by omega⟩
  simp only [whispererref09_Next.j4]
  cases d with
  | zero => rw [if_pos (by omega)]; simp [hd]
  | succ d =>
    rw [if_neg (by omega), if_pos (by omega), if_pos (by omega), rd_nat]
    have hw : wrap64 ((i : Int) + 1) = (i : Int) + 1 := by unfold wrap64; omega
    by_cases h1 : l.getD i 0 < 64
    · rw [if_pos h1]; simp only []; rw [if_neg (by omega)]
    · by_cases h2 : l.getD i 0 > 126
      · rw [if_neg h1, if_pos h2]; simp only []; rw [if_neg (by omega)]
      · rw [if_neg h1, if_neg h2, hw, if_pos (by omega), if_pos (by omega), key_ok _ _ rfl k (by omega)]
        simp only [Option.bind_some]
        rw [if_pos (by omega), show ((i : Int) + 1).toNat = i + 1 from by omega, str_tail l i h0 (by omega)]

theorem two_ok (l : List Int) (h0 : l.getD 0 0 = 27) (h1 : l.getD 1 0 = 91) (hm : l.length ≤ 9223372036854775806) (hl : 2 ≤ l.length) : ∀ (d i k : Nat), 2 ≤ i → l.length = i + d → d + 8 ≤ k →
    whispererref09_Next.l1 k l i 15 0 = some (nextGo l d i true)
  | d, i, k, hi, hd, hk => by
    obtain ⟨k, rfl⟩ : ∃ m, k = m + 1 := ⟨k - 1, by omega⟩
    have ht := tail_ok l d i k h0 hd hm (by omega)
    simp only [whispererref09_Next.l1]
    rw [if_pos (by omega), rd_one, if_pos h1]
    cases d with
    | zero => rw [if_neg (by omega), ht]; rfl
    | succ d =>
      rw [if_pos (by omega)]
      have hw : wrap64 ((i : Int) + 1) = ((i + 1 : Nat) : Int) := by unfold wrap64; omega
      rw [nextGo_succ, rd_nat, hw]
      by_cases hf : i < 34
      · rw [if_pos (by omega), if_pos (by omega)]
        by_cases ha : l.getD i 0 ≥ 32
        · rw [if_pos ha]
          by_cases hb : l.getD i 0 ≤ 47
          · rw [if_pos hb, two_ok l h0 h1 hm hl d (i + 1) k (by omega) (by omega) (by omega), if_neg (by omega), if_neg (by omega), if_neg (by simp), if_pos ⟨ha, hb⟩]
          · rw [if_neg hb, ht]; simp only []
            by_cases hA : 64 ≤ l.getD i 0 ∧ l.getD i 0 ≤ 126
            · rw [if_pos hA, if_pos hA]
            · rw [if_neg hA, if_neg hA, if_neg (by omega), if_neg (by simp), if_neg (by omega)]
        · rw [if_neg ha, ht]; simp only []
          rw [if_neg (by omega), if_neg (by omega), if_neg (by omega), if_neg (by simp), if_neg (by omega)]
      · rw [if_neg (by omega), ht]; simp only []
        by_cases hA : 64 ≤ l.getD i 0 ∧ l.getD i 0 ≤ 126
        · rw [if_pos hA, if_pos hA]
        · rw [if_neg hA, if_neg hA, if_pos (.inr (by omega))]

theorem one_ok (l : List Int) (h0 : l.getD 0 0 = 27) (h1 : l.getD 1 0 = 91) (hm : l.length ≤ 9223372036854775806) (hl : 2 ≤ l.length) : ∀ (d i k : Nat), 2 ≤ i → l.length = i + d → d + 12 ≤ k →
    whispererref09_Next.l0 k l i 15 0 = some (nextGo l d i false)
  | d, i, k, hi, hd, hk => by
    obtain ⟨k, rfl⟩ : ∃ m, k = m + 1 := ⟨k - 1, by omega⟩
    have ht : whispererref09_Next.j2 k l i 15 0 = some (nextGo l d i true) := by
      obtain ⟨k2, e⟩ : ∃ m, k = m + 1 := ⟨k - 1, by omega⟩
      rw [e]
      simp only [whispererref09_Next.j2]
      exact two_ok l h0 h1 hm hl d i k2 hi hd (by omega)
    simp only [whispererref09_Next.l0]
    rw [if_pos (by omega), rd_one, if_pos h1]
    cases d with
    | zero => rw [if_neg (by omega), ht]; rfl
    | succ d =>
      rw [if_pos (by omega)]
      have hw : wrap64 ((i : Int) + 1) = ((i + 1 : Nat) : Int) := by unfold wrap64; omega
      rw [nextGo_succ] at ht
      rw [nextGo_succ, rd_nat, hw, ht]
      by_cases hf : i < 34
      · rw [if_pos (by omega), if_pos (by omega)]
        by_cases ha : l.getD i 0 ≥ 48
        · rw [if_pos ha]
          by_cases hb : l.getD i 0 ≤ 63
          · rw [if_pos hb, one_ok l h0 h1 hm hl d (i + 1) k (by omega) (by omega) (by omega), if_neg (by omega), if_neg (by omega), if_pos ⟨ha, hb, rfl⟩]
          · rw [if_neg hb, if_neg (c := 48 ≤ _ ∧ _ ∧ true = false) (by simp), if_neg (c := 48 ≤ _ ∧ _ ∧ false = false) (by omega)]
        · rw [if_neg ha, if_neg (c := 48 ≤ _ ∧ _ ∧ true = false) (by simp), if_neg (c := 48 ≤ _ ∧ _ ∧ false = false) (by omega)]
      · rw [if_neg (by omega)]
        by_cases hA : 64 ≤ l.getD i 0 ∧ l.getD i 0 ≤ 126
        · rw [if_pos hA, if_pos hA]
        · rw [if_neg hA, if_neg hA, if_pos (.inr (by omega)), if_pos (.inr (by omega))]

theorem ref_ok (l : List Int) (hm : l.length ≤ 9223372036854775806) (k : Nat) (hk : l.length + 20 ≤ k) : whispererref09_Next.f k l = some (nextL l) := by
  obtain ⟨k, rfl⟩ : ∃ m, k = m + 1 := ⟨k - 1, by omega⟩
  unfold whispererref09_Next.f nextL
  by_cases hz : l.length = 0
  · rw [if_pos (by omega), if_pos hz]
  rw [if_neg (by omega), if_neg hz, if_pos (by omega), show rd l 0 = l.getD 0 0 from rfl]
  by_cases h0 : l.getD 0 0 = 27
  · rw [if_pos h0, if_neg (c := l.getD 0 0 ≠ 27) (fun x => x h0)]
    by_cases hl1 : l.length = 1
    · rw [if_pos (by omega), if_neg (by omega), hl1]
      show _ = some (nextGo l 0 2 false)
      unfold nextGo
      rw [hl1]; rfl
    · rw [if_neg (by omega), if_pos (by omega), rd_one]
      by_cases h91 : l.getD 1 0 = 91
      · rw [if_pos h91, if_neg (fun h => h.2.1 h91)]
        simp only [whispererref09_Next.j0]
        rw [if_neg (by simp)]
        exact one_ok l h0 h91 hm (by omega) (l.length - 2) 2 k (by omega) (by omega) (by omega)
      · rw [if_neg h91]
        by_cases h79 : l.getD 1 0 = 79
        · rw [if_neg (fun h => h.2.2 h79), h79]
          obtain ⟨k, rfl⟩ : ∃ m, k = m + 3 := ⟨k - 3, by omega⟩
          simp only [whispererref09_Next.j0]
          rw [if_neg (by decide)]
          simp only [whispererref09_Next.l0]
          rw [if_pos (by omega), rd_one, if_neg h91]
          simp only [whispererref09_Next.j2, whispererref09_Next.l1]
          rw [if_pos (by omega), rd_one, if_neg h91]
          obtain ⟨d, hd⟩ : ∃ d, l.length = 2 + d := ⟨l.length - 2, by omega⟩
          rw [show l.length - 2 = d from by omega]
          have ht := tail_ok l d 2 k h0 hd hm (by omega)
          refine ht.trans ?_
          cases d with
          | zero => rfl
          | succ d =>
            rw [nextGo_succ]
            simp only []
            by_cases hA : 64 ≤ l.getD 2 0 ∧ l.getD 2 0 ≤ 126
            · rw [if_pos hA, if_pos hA]
            · rw [if_neg hA, if_neg hA, if_pos (.inl h79)]
        · rw [if_pos ⟨by omega, h91, h79⟩]
          simp only [whispererref09_Next.j0]
          rw [if_pos (by simpa using h79)]
  · rw [if_neg h0, if_pos h0]

end Go.Proofs.YtmdeehblmkpddaaDoor.Hand

namespace Go.Proofs.YtmdeehblmkpddaaDoor.Hand
open Go.RowKit Go.Proofs.YtmdeehblmkpddaaDoor.PChars Go.Proofs.YtmdeehblmkpddaaDoorW.PrintWords Go.Proofs.YtmdeehblmkpddaaDoorW.PrintLast
set_option linter.unusedVariables false
set_option linter.unusedSimpArgs false

def szN (b : Nat) : Nat := if b < 128 then 1 else if b < 194 then 0 else if b < 224 then 2 else if b < 240 then 3 else if b < 245 then 4 else 0
theorem size_eq (k b : Nat) : whispererref01_size.f (k + 2) (b : Int) = some (szN b : Int) := by
  unfold whispererref01_size.f szN
  by_cases c1 : b < 128
  · rw [if_pos (by omega), if_pos c1]; rfl
  · rw [if_neg (by omega), if_neg c1]
    by_cases c2 : b < 194
    · rw [if_neg (by omega), if_pos c2, whispererref01_size.j0, if_neg (by decide), if_neg (by omega), whispererref01_size.j1, if_neg (by decide), if_neg (by omega)]; rfl
    · rw [if_pos (by omega), if_neg c2, whispererref01_size.j0]
      by_cases c3 : b < 224
      · rw [if_pos (decide_eq_true (by omega)), if_pos c3]; rfl
      · rw [if_neg (by rw [decide_eq_false (by omega)]; decide), if_neg c3, if_pos (by omega), whispererref01_size.j1]
        by_cases c4 : b < 240
        · rw [if_pos (decide_eq_true (by omega)), if_pos c4]; rfl
        · rw [if_neg (by rw [decide_eq_false (by omega)]; decide), if_neg c4, if_pos (by omega)]
          by_cases c5 : b < 245
          · rw [if_pos (by omega), if_pos c5]; rfl
          · rw [if_neg (by omega), if_neg c5]; rfl
theorem second_eq (a c : Nat) : whispererref01_second.f (a : Int) (c : Int) = some (decide (¬ (c < nlo a ∨ nhi a < c))) := by
  have fin (x : Bool) (p : Prop) [Decidable p] (h : x = true ↔ p) : some x = some (decide p) := congrArg some (Bool.eq_iff_iff.2 (by simpa using h))
  unfold whispererref01_second.f
  by_cases c1 : a = 224
  · have e1 : nlo a = 160 := by unfold nlo; rw [if_pos c1]
    have e2 : nhi a = 191 := by unfold nhi; rw [if_neg (by omega), if_neg (by omega)]
    rw [if_pos (by omega), e1, e2]
    split
    · exact fin _ _ (by rw [decide_eq_true_iff]; omega)
    · exact fin _ _ (by simp; omega)
  · rw [if_neg (by omega)]
    by_cases c2 : a = 237
    · have e1 : nlo a = 128 := by unfold nlo; rw [if_neg (by omega), if_neg (by omega)]
      have e2 : nhi a = 159 := by unfold nhi; rw [if_pos c2]
      rw [if_pos (by omega), e1, e2]
      split
      · exact fin _ _ (by rw [decide_eq_true_iff]; omega)
      · exact fin _ _ (by simp; omega)
    · rw [if_neg (by omega)]
      by_cases c3 : a = 240
      · have e1 : nlo a = 144 := by unfold nlo; rw [if_neg (by omega), if_pos c3]
        have e2 : nhi a = 191 := by unfold nhi; rw [if_neg (by omega), if_neg (by omega)]
        rw [if_pos (by omega), e1, e2]
        split
        · exact fin _ _ (by rw [decide_eq_true_iff]; omega)
        · exact fin _ _ (by simp; omega)
      · rw [if_neg (by omega)]
        have e1 : nlo a = 128 := by unfold nlo; rw [if_neg (by omega), if_neg (by omega)]
        by_cases c4 : a = 244
        · have e2 : nhi a = 143 := by unfold nhi; rw [if_neg (by omega), if_pos c4]
          rw [if_pos (by omega), e1, e2]
          split
          · exact fin _ _ (by rw [decide_eq_true_iff]; omega)
          · exact fin _ _ (by simp; omega)
        · have e2 : nhi a = 191 := by unfold nhi; rw [if_neg (by omega), if_neg (by omega)]
          rw [if_neg (by omega), e1, e2]
          split
          · exact fin _ _ (by rw [decide_eq_true_iff]; omega)
          · exact fin _ _ (by simp; omega)
/-- What is left of a character's reading, at byte i; d more are wanted. -/
def nxR (l : List Int) (sz : Nat) : Nat → Nat → Nat → Nat × Nat × Nat
  | 0, c, _ => (c, sz, 0)
  | d + 1, c, i => if l.length ≤ i then (0, i, 7) else if (i = 1 ∧ (at0 l 1 < nlo (at0 l 0) ∨ nhi (at0 l 0) < at0 l 1)) ∨ (1 < i ∧ (at0 l i < 128 ∨ 191 < at0 l i)) then (0, i, 8) else nxR l sz d (64 * c + at0 l i - 128) (i + 1)
theorem nxR_succ (l : List Int) (sz d c i : Nat) : nxR l sz (d + 1) c i = if l.length ≤ i then (0, i, 7) else if (i = 1 ∧ (at0 l 1 < nlo (at0 l 0) ∨ nhi (at0 l 0) < at0 l 1)) ∨ (1 < i ∧ (at0 l i < 128 ∨ 191 < at0 l i)) then (0, i, 8) else nxR l sz d (64 * c + at0 l i - 128) (i + 1) := rfl
theorem lo_ge (a : Nat) : 128 ≤ nlo a ∧ nhi a ≤ 191 := by
  unfold nlo nhi
  repeat' split
  all_goals omega
theorem nxR_nx (l : List Int) (h0 : l ≠ []) (hsz : 2 ≤ szN (at0 l 0)) : nxR l (szN (at0 l 0)) (szN (at0 l 0) - 1) (at0 l 0 % (if szN (at0 l 0) = 2 then 32 else if szN (at0 l 0) = 3 then 16 else 8)) 1 = nxL l := by
  have hl : 1 ≤ l.length := List.length_pos_iff.2 h0
  have hll := lo_ge (at0 l 0)
  unfold nxL
  rw [if_neg h0]
  generalize hb0 : at0 l 0 = b0 at *
  have first : ∀ sz d c : Nat, nxR l sz (d + 1) c 1 = if l.length < 2 then (0, 1, 7) else if at0 l 1 < nlo b0 ∨ nhi b0 < at0 l 1 then (0, 1, 8) else nxR l sz d (64 * c + at0 l 1 - 128) 2 := by
    intro sz d c
    rw [nxR_succ, hb0]
    by_cases n2 : l.length < 2
    · rw [if_pos (by omega), if_pos n2]
    · rw [if_neg (by omega), if_neg n2]
      by_cases g1 : at0 l 1 < nlo b0 ∨ nhi b0 < at0 l 1
      · rw [if_pos (.inl ⟨rfl, g1⟩), if_pos g1]
      · rw [if_neg (by rintro (⟨_, h⟩ | ⟨h, _⟩); exact g1 h; omega), if_neg g1]
  have more : ∀ sz d c i : Nat, 2 ≤ i → nxR l sz (d + 1) c i = if l.length < i + 1 then (0, i, 7) else if at0 l i < 128 ∨ 191 < at0 l i then (0, i, 8) else nxR l sz d (64 * c + at0 l i - 128) (i + 1) := by
    intro sz d c i hi
    rw [nxR_succ]
    by_cases n2 : l.length < i + 1
    · rw [if_pos (by omega), if_pos n2]
    · rw [if_neg (by omega), if_neg n2]
      by_cases g1 : at0 l i < 128 ∨ 191 < at0 l i
      · rw [if_pos (.inr ⟨by omega, g1⟩), if_pos g1]
      · rw [if_neg (by rintro (⟨h, _⟩ | ⟨_, h⟩); omega; exact g1 h), if_neg g1]
  have zero : ∀ sz c i : Nat, nxR l sz 0 c i = (c, sz, 0) := fun _ _ _ => rfl
  unfold nx
  by_cases c1 : b0 < 128
  · have : szN b0 = 1 := by unfold szN; rw [if_pos c1]
    omega
  by_cases c2 : b0 < 194
  · have : szN b0 = 0 := by unfold szN; rw [if_neg c1, if_pos c2]
    omega
  rw [if_neg c1]
  by_cases c3 : b0 < 224
  · have e : szN b0 = 2 := by unfold szN; rw [if_neg c1, if_neg c2, if_pos c3]
    rw [e, if_neg (show ¬ (b0 < 194 ∨ 244 < b0) by omega), if_pos (show (2 : Nat) = 2 from rfl), show 2 - 1 = 0 + 1 from rfl, first, zero]
    split
    · rfl
    · split
      · rfl
      · refine Prod.ext ?_ rfl
        show 64 * (b0 % 32) + at0 l 1 - 128 = b0 % 32 * 64 + at0 l 1 % 64
        omega
  by_cases c4 : b0 < 240
  · have e : szN b0 = 3 := by unfold szN; rw [if_neg c1, if_neg c2, if_neg c3, if_pos c4]
    rw [e, if_neg (show ¬ (b0 < 194 ∨ 244 < b0) by omega), if_neg (show ¬ (3 : Nat) = 2 by decide), if_pos (show (3 : Nat) = 3 from rfl), show 3 - 1 = 1 + 1 from rfl, first, more _ _ _ _ (Nat.le_refl _), zero]
    simp only [Nat.reduceAdd]
    split
    · rfl
    · split
      · rfl
      · split
        · rfl
        · split
          · rfl
          · refine Prod.ext ?_ rfl
            show 64 * (64 * (b0 % 16) + at0 l 1 - 128) + at0 l 2 - 128 = b0 % 16 * 4096 + at0 l 1 % 64 * 64 + at0 l 2 % 64
            omega
  by_cases c5 : b0 < 245
  · have e : szN b0 = 4 := by unfold szN; rw [if_neg c1, if_neg c2, if_neg c3, if_neg c4, if_pos c5]
    rw [e, if_neg (show ¬ (b0 < 194 ∨ 244 < b0) by omega), if_neg (show ¬ (4 : Nat) = 2 by decide), if_neg (show ¬ (4 : Nat) = 3 by decide), show 4 - 1 = 2 + 1 from rfl, first, more _ _ _ _ (Nat.le_refl _), more _ _ _ _ (by decide), zero]
    simp only [Nat.reduceAdd]
    split
    · rfl
    · split
      · rfl
      · split
        · rfl
        · split
          · rfl
          · split
            · rfl
            · split
              · rfl
              · refine Prod.ext ?_ rfl
                show 64 * (64 * (64 * (b0 % 8) + at0 l 1 - 128) + at0 l 2 - 128) + at0 l 3 - 128 = b0 % 8 * 262144 + at0 l 1 % 64 * 4096 + at0 l 2 % 64 * 64 + at0 l 3 % 64
                omega
  · have : szN b0 = 0 := by unfold szN; rw [if_neg c1, if_neg c2, if_neg c3, if_neg c4, if_neg c5]
    omega
theorem s1Keep {w W W' : World} {a b : Addr} {x y : Value} (h : W.cell? a = some x ∧ W.cell? b = some y ∧ Below w.heap.size w W) (hb : Below W.heap.size W W') : W'.cell? a = some x ∧ W'.cell? b = some y ∧ Below w.heap.size w W' := ⟨cell_stays h.1 hb, cell_stays h.2.1 hb, h.2.2.trans (hb.mono h.2.2.size)⟩
theorem second_quiet {a b : Int} {r : Bool} (h : whispererref01_second.f a b = some r) (w : World) (n : Nat) : Calls Tryd.prog 57 #[.int .u8 a, .int .u8 b] (w.drewN n) fun e w'' => e = .returned (.bool r) ∧ ∃ m, w'' = w.drewN m := by
  refine (whispererref01_second.calls a b r _ h).mono ?_
  rintro e w' ⟨rfl, hd⟩
  obtain ⟨q, rfl⟩ := hd
  exact ⟨rfl, n + q, by rw [World.drewN_drewN]⟩
theorem szN_cases (b : Nat) : szN b = 0 ∨ szN b = 1 ∨ szN b = 2 ∨ szN b = 3 ∨ szN b = 4 := by
  unfold szN
  repeat' split
  all_goals simp
set_option maxHeartbeats 4000000 in
set_option maxRecDepth 100000 in
theorem next01_ok (A : Option Addr) (c : Nat) (l : List Int) (w : World) (hr : Kd.C (Kd.int .u8) w A l.length l) (hc : l.length ≤ c) (hb : ∀ x ∈ l, 0 ≤ x ∧ x ≤ 255) :
    Calls Tryd.prog 40 #[.slice A l.length c] w fun e w' => e = .returned (.tuple #[.int .i64 ((nxL l).1 : Int), .int .i64 ((nxL l).2.1 : Int), .int .i64 ((nxL l).2.2 : Int)]) ∧ Below w.heap.size w w' := by
  by_cases h0 : l = []
  · subst h0
    have e : nxL [] = (0, 0, 6) := rfl
    rw [e]
    go_enter Tryd.func40, Tryd.ntmps40
    go_wp2_with (fail)
    go_ret3
    exact ⟨rfl, Below.refl _ w⟩
  have hl : 1 ≤ l.length := List.length_pos_iff.2 h0
  have hm := (Kd.reads_of_C (d := (0 : Int)) hr).2.1
  obtain ⟨ad, rfl, hcl⟩ := (Kd.reads_of_C (d := (0 : Int)) hr).2.2 (by omega)
  have hat : ∀ j, j < l.length → w.cell? (ad.add j) = some (.int .u8 ((at0 l j : Nat) : Int)) ∧ at0 l j < 256 := fun j hj => by
    have := at0_cast hb j hj
    exact ⟨by rw [hcl j hj, ← this.1], this.2⟩
  have HA := Aside0.mk hat
  have hNX := Aside0.mk (nxR_nx l h0)
  have m0 : w.cell? ad = some (.int .u8 ((at0 l 0 : Nat) : Int)) := by
    have := (hat 0 hl).1
    rw [Addr.add_zero'] at this
    exact this
  have h256 := (hat 0 hl).2
  have hnx0 := Aside0.mk (show nxL l = nx l.length (at0 l 0) (at0 l 1) (at0 l 2) (at0 l 3) by unfold nxL; rw [if_neg h0])
  have hlI : (0 : Int) < (l.length : Int) := by omega
  have hlz : ((l.length : Int) == 0) = false := by simp; omega
  clear hcl hat hr
  have hsz := whispererref01_size.calls 2 ((at0 l 0 : Nat) : Int) _ w (size_eq 0 (at0 l 0))
  generalize hb0 : at0 l 0 = b0 at *
  have hb0A := Aside0.mk hb0
  clear hb0
  go_enter Tryd.func40, Tryd.ntmps40
  go_wp2_with (fail)
  refine hsz.mono ?_
  rintro e w1 ⟨rfl, hd1⟩
  have HB1 := Aside0.mk hd1.below
  have M00 := Aside0.mk m0
  have m0 := cell_stays m0 hd1.below
  clear hsz hd1
  by_cases z0 : szN b0 = 0
  · have e := Aside0.mk (show nxL l = (0, 1, 8) by
      rw [hnx0.out]
      unfold nx
      unfold szN at z0
      by_cases k1 : b0 < 128
      · rw [if_pos k1] at z0; omega
      · rw [if_neg k1, if_pos]
        repeat' split at z0
        all_goals omega)
    rw [z0]
    clear hnx0 hNX z0
    go_wp2_with (fail)
    go_ret3
    rw [e.out]
    exact ⟨rfl, HB1.out⟩
  · by_cases z1 : szN b0 = 1
    · have hlt : b0 < 128 := by
        unfold szN at z1
        repeat' split at z1
        all_goals omega
      have e := Aside0.mk (show nxL l = (b0, 1, 0) by
        rw [hnx0.out]
        unfold nx
        rw [if_pos hlt])
      have hwb : IntKind.i64.wrap (b0 : Int) = (b0 : Int) := by unfold IntKind.wrap; simp [IntKind.bits]; omega
      rw [z1]
      clear hnx0 hNX z0 z1
      go_wp2_with (fail)
      go_ret3
      rw [e.out]
      exact ⟨rfl, HB1.out⟩
    · have h234 : (szN b0 = 2 ∨ szN b0 = 3 ∨ szN b0 = 4) := by
        have := szN_cases b0
        omega
      have hwb : IntKind.i64.wrap (b0 : Int) = (b0 : Int) := by unfold IntKind.wrap; simp [IntKind.bits]; omega
      have t32 : Int.tmod (b0 : Int) 32 = ((b0 % 32 : Nat) : Int) := by rw [Int.tmod_eq_emod_of_nonneg (by omega)]; omega
      have t16 : Int.tmod (b0 : Int) 16 = ((b0 % 16 : Nat) : Int) := by rw [Int.tmod_eq_emod_of_nonneg (by omega)]; omega
      have t8 : Int.tmod (b0 : Int) 8 = ((b0 % 8 : Nat) : Int) := by rw [Int.tmod_eq_emod_of_nonneg (by omega)]; omega
      have M0 := Aside0.mk (show w.cell? ad = some (.int .u8 (b0 : Int)) from M00.out)
      rcases h234 with h | h | h
      · have hN0 := hNX.out (by omega)
        rw [h, if_pos rfl] at hN0
        have hN := Aside0.mk hN0
        have hc0 : b0 % 32 < 32 := by omega
        rw [h]
        clear hN0 hNX hnx0 z0 z1 h
        generalize hC : b0 % 32 = C0 at *
        clear hC
        go_wp2_with (fail)
        go_loopw [6, 7] (fun v6 v7 wr => ∃ (i cc : Nat), v6 = .int .i64 cc ∧ v7 = .int .i64 i ∧ Aside0 (1 ≤ i ∧ i ≤ 2 ∧ i ≤ l.length ∧ (i = 1 → cc ≤ 31) ∧ (i = 2 → cc ≤ 3000) ∧ (i = 3 → cc ≤ 200000) ∧ (i = 4 → cc ≤ 13000000)) ∧ Aside0 (nxR l 2 (2 - i) cc i = nxL l) ∧ Aside0 (Below w.heap.size w wr)) (fun _ v7 _ => 2 - (intOf v7).toNat)
        case atStart => exact ⟨1, C0, rfl, rfl, ⟨by omega, by omega, hl, fun _ => by omega, fun h => by omega, fun h => by omega, fun h => by omega⟩, hN, HB1⟩
        case round =>
          clear hN HB1 m0
          obtain ⟨i, cc, rfl, rfl, hi, hN, hB⟩ := hrel
          obtain ⟨i1, i2, i3, i4, i5, i6, i7⟩ := hi.out
          by_cases hlt : i < 2
          · have hltI : (i : Int) < 2 := by omega
            have hstep := hN.out
            rw [show 2 - i = (2 - i - 1) + 1 by omega, nxR_succ, hb0A.out] at hstep
            by_cases hend : l.length ≤ i
            · rw [if_pos hend] at hstep
              have e := Aside0.mk hstep.symm
              have hee : ((i : Int) == (l.length : Int)) = true := by simp; omega
              clear hstep
              go_wp2_with (fail)
              go_ret3
              rw [e.out]
              exact ⟨rfl, hB.out⟩
            · rw [if_neg hend] at hstep
              have hee : ((i : Int) == (l.length : Int)) = false := by simp; omega
              have hiL : (i : Int) < (l.length : Int) := by omega
              by_cases h1 : i = 1
              · have g0 := cell_stays (show w.cell? ad = some (.int .u8 (b0 : Int)) from M0.out) hB.out
                have g1 := cell_stays (HA.out 1 (by omega)).1 hB.out
                have gi := cell_stays (HA.out i (by omega)).1 hB.out
                rw [show at0 l i = at0 l 1 by rw [h1]] at gi hstep
                have hs2 := second_eq b0 (at0 l 1)
                have h256' := (HA.out 1 (by omega)).2
                have hlo := lo_ge b0
                have hL1 : (1 : Int) < (l.length : Int) := by omega
                have hL0N : 0 < l.length := by omega
                have hL1N : 1 < l.length := by omega
                have h1b : ((i : Int) == 1) = true := by simp; omega
                have h1g : decide ((1 : Int) < (i : Int)) = false := decide_eq_false (by omega)
                have h1A := Aside0.mk h1
                generalize at0 l 1 = b1 at *
                have g1' : wr.cell? ⟨ad.block, ad.off + 1, none⟩ = some (.int .u8 (b1 : Int)) := g1
                by_cases gb : b1 < nlo b0 ∨ nhi b0 < b1
                · rw [decide_eq_false (fun h => h gb)] at hs2
                  rw [if_pos (.inl ⟨h1, gb⟩)] at hstep
                  have e := Aside0.mk hstep.symm
                  clear hstep hlo gb hN h1
                  go_wp2_with (fail)
                  go_quiet ((go_at_call 57; exact second_quiet hs2 _ _))
                  have hB2 := Aside0.mk (show Below w.heap.size w (wr.drewN nq) from pw_below_drewN hB.out nq)
                  go_wp2_with (fail)
                  go_ret3
                  rw [e.out]
                  exact ⟨rfl, hB2.out⟩
                · rw [decide_eq_true gb] at hs2
                  rw [if_neg (by rintro (⟨_, h⟩ | ⟨h, _⟩); exact gb h; omega)] at hstep
                  have hst := Aside0.mk hstep
                  have hge : 128 ≤ b1 ∧ b1 ≤ 191 := by omega
                  clear hstep hlo gb hN h1
                  go_wp2_with (fail)
                  go_quiet ((go_at_call 57; exact second_quiet hs2 _ _))
                  have q1 : (wr.drewN nq).cell? (ad.add i) = some (.int .u8 (b1 : Int)) := gi
                  have hB2 := Aside0.mk (show Below w.heap.size w (wr.drewN nq) from pw_below_drewN hB.out nq)
                  have u1 : IntKind.i64.wrap (64 * (cc : Int)) = 64 * (cc : Int) := by have := h1A.out; unfold IntKind.wrap; simp [IntKind.bits]; omega
                  have u2 : IntKind.i64.wrap (b1 : Int) = (b1 : Int) := by have := h1A.out; unfold IntKind.wrap; simp [IntKind.bits]; omega
                  have u3 : IntKind.i64.wrap (64 * (cc : Int) + (b1 : Int)) = 64 * (cc : Int) + (b1 : Int) := by have := h1A.out; unfold IntKind.wrap; simp [IntKind.bits]; omega
                  have u4 : IntKind.i64.wrap (64 * (cc : Int) + (b1 : Int) - 128) = 64 * (cc : Int) + (b1 : Int) - 128 := by have := h1A.out; unfold IntKind.wrap; simp [IntKind.bits]; omega
                  have u5 : IntKind.i64.wrap ((i : Int) + 1) = (i : Int) + 1 := by unfold IntKind.wrap; simp [IntKind.bits]; omega
                  go_wp2_with (fail)
                  have h1 := h1A.out
                  refine ⟨⟨i + 1, 64 * cc + b1 - 128, by rw [show ((64 * cc + b1 - 128 : Nat) : Int) = 64 * (cc : Int) + (b1 : Int) - 128 by omega], by rw [Int.natCast_add]; rfl, ⟨by omega, by omega, by omega, fun h => by omega, fun h => by omega, fun h => by omega, fun h => by omega⟩, ⟨by rw [show 2 - (i + 1) = 2 - i - 1 by omega]; exact hst.out⟩, hB2⟩, ?_⟩
                  simp [intOf]
                  omega
              · exfalso
                omega
          · have hltI : (2 : Int) ≤ (i : Int) := by omega
            have hE : i = 2 := by omega
            subst hE
            have e := Aside0.mk hN.out.symm
            clear hN
            go_wp2_with (fail)
            go_ret3
            rw [e.out]
            exact ⟨rfl, hB.out⟩
      · have hN0 := hNX.out (by omega)
        rw [h, if_neg (show ¬ (3 : Nat) = 2 by decide), if_pos rfl] at hN0
        have hN := Aside0.mk hN0
        have hc0 : b0 % 16 < 32 := by omega
        rw [h]
        clear hN0 hNX hnx0 z0 z1 h
        generalize hC : b0 % 16 = C0 at *
        clear hC
        go_wp2_with (fail)
        go_loopw [6, 7] (fun v6 v7 wr => ∃ (i cc : Nat), v6 = .int .i64 cc ∧ v7 = .int .i64 i ∧ Aside0 (1 ≤ i ∧ i ≤ 3 ∧ i ≤ l.length ∧ (i = 1 → cc ≤ 31) ∧ (i = 2 → cc ≤ 3000) ∧ (i = 3 → cc ≤ 200000) ∧ (i = 4 → cc ≤ 13000000)) ∧ Aside0 (nxR l 3 (3 - i) cc i = nxL l) ∧ Aside0 (Below w.heap.size w wr)) (fun _ v7 _ => 3 - (intOf v7).toNat)
        case atStart => exact ⟨1, C0, rfl, rfl, ⟨by omega, by omega, hl, fun _ => by omega, fun h => by omega, fun h => by omega, fun h => by omega⟩, hN, HB1⟩
        case round =>
          clear hN HB1 m0
          obtain ⟨i, cc, rfl, rfl, hi, hN, hB⟩ := hrel
          obtain ⟨i1, i2, i3, i4, i5, i6, i7⟩ := hi.out
          by_cases hlt : i < 3
          · have hltI : (i : Int) < 3 := by omega
            have hstep := hN.out
            rw [show 3 - i = (3 - i - 1) + 1 by omega, nxR_succ, hb0A.out] at hstep
            by_cases hend : l.length ≤ i
            · rw [if_pos hend] at hstep
              have e := Aside0.mk hstep.symm
              have hee : ((i : Int) == (l.length : Int)) = true := by simp; omega
              clear hstep
              go_wp2_with (fail)
              go_ret3
              rw [e.out]
              exact ⟨rfl, hB.out⟩
            · rw [if_neg hend] at hstep
              have hee : ((i : Int) == (l.length : Int)) = false := by simp; omega
              have hiL : (i : Int) < (l.length : Int) := by omega
              by_cases h1 : i = 1
              · have g0 := cell_stays (show w.cell? ad = some (.int .u8 (b0 : Int)) from M0.out) hB.out
                have g1 := cell_stays (HA.out 1 (by omega)).1 hB.out
                have gi := cell_stays (HA.out i (by omega)).1 hB.out
                rw [show at0 l i = at0 l 1 by rw [h1]] at gi hstep
                have hs2 := second_eq b0 (at0 l 1)
                have h256' := (HA.out 1 (by omega)).2
                have hlo := lo_ge b0
                have hL1 : (1 : Int) < (l.length : Int) := by omega
                have hL0N : 0 < l.length := by omega
                have hL1N : 1 < l.length := by omega
                have h1b : ((i : Int) == 1) = true := by simp; omega
                have h1g : decide ((1 : Int) < (i : Int)) = false := decide_eq_false (by omega)
                have h1A := Aside0.mk h1
                generalize at0 l 1 = b1 at *
                have g1' : wr.cell? ⟨ad.block, ad.off + 1, none⟩ = some (.int .u8 (b1 : Int)) := g1
                by_cases gb : b1 < nlo b0 ∨ nhi b0 < b1
                · rw [decide_eq_false (fun h => h gb)] at hs2
                  rw [if_pos (.inl ⟨h1, gb⟩)] at hstep
                  have e := Aside0.mk hstep.symm
                  clear hstep hlo gb hN h1
                  go_wp2_with (fail)
                  go_quiet ((go_at_call 57; exact second_quiet hs2 _ _))
                  have hB2 := Aside0.mk (show Below w.heap.size w (wr.drewN nq) from pw_below_drewN hB.out nq)
                  go_wp2_with (fail)
                  go_ret3
                  rw [e.out]
                  exact ⟨rfl, hB2.out⟩
                · rw [decide_eq_true gb] at hs2
                  rw [if_neg (by rintro (⟨_, h⟩ | ⟨h, _⟩); exact gb h; omega)] at hstep
                  have hst := Aside0.mk hstep
                  have hge : 128 ≤ b1 ∧ b1 ≤ 191 := by omega
                  clear hstep hlo gb hN h1
                  go_wp2_with (fail)
                  go_quiet ((go_at_call 57; exact second_quiet hs2 _ _))
                  have q1 : (wr.drewN nq).cell? (ad.add i) = some (.int .u8 (b1 : Int)) := gi
                  have hB2 := Aside0.mk (show Below w.heap.size w (wr.drewN nq) from pw_below_drewN hB.out nq)
                  have u1 : IntKind.i64.wrap (64 * (cc : Int)) = 64 * (cc : Int) := by have := h1A.out; unfold IntKind.wrap; simp [IntKind.bits]; omega
                  have u2 : IntKind.i64.wrap (b1 : Int) = (b1 : Int) := by have := h1A.out; unfold IntKind.wrap; simp [IntKind.bits]; omega
                  have u3 : IntKind.i64.wrap (64 * (cc : Int) + (b1 : Int)) = 64 * (cc : Int) + (b1 : Int) := by have := h1A.out; unfold IntKind.wrap; simp [IntKind.bits]; omega
                  have u4 : IntKind.i64.wrap (64 * (cc : Int) + (b1 : Int) - 128) = 64 * (cc : Int) + (b1 : Int) - 128 := by have := h1A.out; unfold IntKind.wrap; simp [IntKind.bits]; omega
                  have u5 : IntKind.i64.wrap ((i : Int) + 1) = (i : Int) + 1 := by unfold IntKind.wrap; simp [IntKind.bits]; omega
                  go_wp2_with (fail)
                  have h1 := h1A.out
                  refine ⟨⟨i + 1, 64 * cc + b1 - 128, by rw [show ((64 * cc + b1 - 128 : Nat) : Int) = 64 * (cc : Int) + (b1 : Int) - 128 by omega], by rw [Int.natCast_add]; rfl, ⟨by omega, by omega, by omega, fun h => by omega, fun h => by omega, fun h => by omega, fun h => by omega⟩, ⟨by rw [show 3 - (i + 1) = 3 - i - 1 by omega]; exact hst.out⟩, hB2⟩, ?_⟩
                  simp [intOf]
                  omega
              · have h1b : ((i : Int) == 1) = false := by simp; omega
                have h1g : decide ((1 : Int) < (i : Int)) = true := decide_eq_true (by omega)
                have hi0 : (0 : Int) ≤ (i : Int) := by omega
                have gi := cell_stays (HA.out i (by omega)).1 hB.out
                have h256' := (HA.out i (by omega)).2
                generalize at0 l i = bi at *
                by_cases ga : bi < 128
                · have gaI : decide ((bi : Int) < 128) = true := decide_eq_true (by omega)
                  rw [if_pos (.inr ⟨by omega, .inl ga⟩)] at hstep
                  have e := Aside0.mk hstep.symm
                  clear hstep ga hN h1
                  go_wp2_with (fail)
                  go_quiet (fail)
                  have hB2 := Aside0.mk (show Below w.heap.size w (wr.drewN nq) from pw_below_drewN hB.out nq)
                  go_wp2_with (fail)
                  go_ret3
                  rw [e.out]
                  exact ⟨rfl, hB2.out⟩
                · have gaI : decide ((bi : Int) < 128) = false := decide_eq_false (by omega)
                  by_cases gc : 191 < bi
                  · have gcI : decide ((191 : Int) < (bi : Int)) = true := decide_eq_true (by omega)
                    rw [if_pos (.inr ⟨by omega, .inr gc⟩)] at hstep
                    have e := Aside0.mk hstep.symm
                    clear hstep ga gc hN h1
                    go_wp2_with (fail)
                    go_quiet (fail)
                    have hB2 := Aside0.mk (show Below w.heap.size w (wr.drewN nq) from pw_below_drewN hB.out nq)
                    go_wp2_with (fail)
                    go_ret3
                    rw [e.out]
                    exact ⟨rfl, hB2.out⟩
                  · have gcI : decide ((191 : Int) < (bi : Int)) = false := decide_eq_false (by omega)
                    rw [if_neg (by rintro (⟨h, _⟩ | ⟨_, h⟩); exact h1 h; omega)] at hstep
                    have hst := Aside0.mk hstep
                    have hge : 128 ≤ bi ∧ bi ≤ 191 := by omega
                    have h1A := Aside0.mk h1
                    clear hstep ga gc hN h1
                    go_wp2_with (fail)
                    go_quiet (fail)
                    have q1 : (wr.drewN nq).cell? (ad.add i) = some (.int .u8 (bi : Int)) := gi
                    have hB2 := Aside0.mk (show Below w.heap.size w (wr.drewN nq) from pw_below_drewN hB.out nq)
                    have u1 : IntKind.i64.wrap (64 * (cc : Int)) = 64 * (cc : Int) := by have := h1A.out; unfold IntKind.wrap; simp [IntKind.bits]; omega
                    have u2 : IntKind.i64.wrap (bi : Int) = (bi : Int) := by have := h1A.out; unfold IntKind.wrap; simp [IntKind.bits]; omega
                    have u3 : IntKind.i64.wrap (64 * (cc : Int) + (bi : Int)) = 64 * (cc : Int) + (bi : Int) := by have := h1A.out; unfold IntKind.wrap; simp [IntKind.bits]; omega
                    have u4 : IntKind.i64.wrap (64 * (cc : Int) + (bi : Int) - 128) = 64 * (cc : Int) + (bi : Int) - 128 := by have := h1A.out; unfold IntKind.wrap; simp [IntKind.bits]; omega
                    have u5 : IntKind.i64.wrap ((i : Int) + 1) = (i : Int) + 1 := by unfold IntKind.wrap; simp [IntKind.bits]; omega
                    go_wp2_with (fail)
                    have h1 := h1A.out
                    refine ⟨⟨i + 1, 64 * cc + bi - 128, by rw [show ((64 * cc + bi - 128 : Nat) : Int) = 64 * (cc : Int) + (bi : Int) - 128 by omega], by rw [Int.natCast_add]; rfl, ⟨by omega, by omega, by omega, fun h => by omega, fun h => by omega, fun h => by omega, fun h => by omega⟩, ⟨by rw [show 3 - (i + 1) = 3 - i - 1 by omega]; exact hst.out⟩, hB2⟩, ?_⟩
                    simp [intOf]
                    omega
          · have hltI : (3 : Int) ≤ (i : Int) := by omega
            have hE : i = 3 := by omega
            subst hE
            have e := Aside0.mk hN.out.symm
            clear hN
            go_wp2_with (fail)
            go_ret3
            rw [e.out]
            exact ⟨rfl, hB.out⟩
      · have hN0 := hNX.out (by omega)
        rw [h, if_neg (show ¬ (4 : Nat) = 2 by decide), if_neg (show ¬ (4 : Nat) = 3 by decide)] at hN0
        have hN := Aside0.mk hN0
        have hc0 : b0 % 8 < 32 := by omega
        rw [h]
        clear hN0 hNX hnx0 z0 z1 h
        generalize hC : b0 % 8 = C0 at *
        clear hC
        go_wp2_with (fail)
        go_loopw [6, 7] (fun v6 v7 wr => ∃ (i cc : Nat), v6 = .int .i64 cc ∧ v7 = .int .i64 i ∧ Aside0 (1 ≤ i ∧ i ≤ 4 ∧ i ≤ l.length ∧ (i = 1 → cc ≤ 31) ∧ (i = 2 → cc ≤ 3000) ∧ (i = 3 → cc ≤ 200000) ∧ (i = 4 → cc ≤ 13000000)) ∧ Aside0 (nxR l 4 (4 - i) cc i = nxL l) ∧ Aside0 (Below w.heap.size w wr)) (fun _ v7 _ => 4 - (intOf v7).toNat)
        case atStart => exact ⟨1, C0, rfl, rfl, ⟨by omega, by omega, hl, fun _ => by omega, fun h => by omega, fun h => by omega, fun h => by omega⟩, hN, HB1⟩
        case round =>
          clear hN HB1 m0
          obtain ⟨i, cc, rfl, rfl, hi, hN, hB⟩ := hrel
          obtain ⟨i1, i2, i3, i4, i5, i6, i7⟩ := hi.out
          by_cases hlt : i < 4
          · have hltI : (i : Int) < 4 := by omega
            have hstep := hN.out
            rw [show 4 - i = (4 - i - 1) + 1 by omega, nxR_succ, hb0A.out] at hstep
            by_cases hend : l.length ≤ i
            · rw [if_pos hend] at hstep
              have e := Aside0.mk hstep.symm
              have hee : ((i : Int) == (l.length : Int)) = true := by simp; omega
              clear hstep
              go_wp2_with (fail)
              go_ret3
              rw [e.out]
              exact ⟨rfl, hB.out⟩
            · rw [if_neg hend] at hstep
              have hee : ((i : Int) == (l.length : Int)) = false := by simp; omega
              have hiL : (i : Int) < (l.length : Int) := by omega
              by_cases h1 : i = 1
              · have g0 := cell_stays (show w.cell? ad = some (.int .u8 (b0 : Int)) from M0.out) hB.out
                have g1 := cell_stays (HA.out 1 (by omega)).1 hB.out
                have gi := cell_stays (HA.out i (by omega)).1 hB.out
                rw [show at0 l i = at0 l 1 by rw [h1]] at gi hstep
                have hs2 := second_eq b0 (at0 l 1)
                have h256' := (HA.out 1 (by omega)).2
                have hlo := lo_ge b0
                have hL1 : (1 : Int) < (l.length : Int) := by omega
                have hL0N : 0 < l.length := by omega
                have hL1N : 1 < l.length := by omega
                have h1b : ((i : Int) == 1) = true := by simp; omega
                have h1g : decide ((1 : Int) < (i : Int)) = false := decide_eq_false (by omega)
                have h1A := Aside0.mk h1
                generalize at0 l 1 = b1 at *
                have g1' : wr.cell? ⟨ad.block, ad.off + 1, none⟩ = some (.int .u8 (b1 : Int)) := g1
                by_cases gb : b1 < nlo b0 ∨ nhi b0 < b1
                · rw [decide_eq_false (fun h => h gb)] at hs2
                  rw [if_pos (.inl ⟨h1, gb⟩)] at hstep
                  have e := Aside0.mk hstep.symm
                  clear hstep hlo gb hN h1
                  go_wp2_with (fail)
                  go_quiet ((go_at_call 57; exact second_quiet hs2 _ _))
                  have hB2 := Aside0.mk (show Below w.heap.size w (wr.drewN nq) from pw_below_drewN hB.out nq)
                  go_wp2_with (fail)
                  go_ret3
                  rw [e.out]
                  exact ⟨rfl, hB2.out⟩
                · rw [decide_eq_true gb] at hs2
                  rw [if_neg (by rintro (⟨_, h⟩ | ⟨h, _⟩); exact gb h; omega)] at hstep
                  have hst := Aside0.mk hstep
                  have hge : 128 ≤ b1 ∧ b1 ≤ 191 := by omega
                  clear hstep hlo gb hN h1
                  go_wp2_with (fail)
                  go_quiet ((go_at_call 57; exact second_quiet hs2 _ _))
                  have q1 : (wr.drewN nq).cell? (ad.add i) = some (.int .u8 (b1 : Int)) := gi
                  have hB2 := Aside0.mk (show Below w.heap.size w (wr.drewN nq) from pw_below_drewN hB.out nq)
                  have u1 : IntKind.i64.wrap (64 * (cc : Int)) = 64 * (cc : Int) := by have := h1A.out; unfold IntKind.wrap; simp [IntKind.bits]; omega
                  have u2 : IntKind.i64.wrap (b1 : Int) = (b1 : Int) := by have := h1A.out; unfold IntKind.wrap; simp [IntKind.bits]; omega
                  have u3 : IntKind.i64.wrap (64 * (cc : Int) + (b1 : Int)) = 64 * (cc : Int) + (b1 : Int) := by have := h1A.out; unfold IntKind.wrap; simp [IntKind.bits]; omega
                  have u4 : IntKind.i64.wrap (64 * (cc : Int) + (b1 : Int) - 128) = 64 * (cc : Int) + (b1 : Int) - 128 := by have := h1A.out; unfold IntKind.wrap; simp [IntKind.bits]; omega
                  have u5 : IntKind.i64.wrap ((i : Int) + 1) = (i : Int) + 1 := by unfold IntKind.wrap; simp [IntKind.bits]; omega
                  go_wp2_with (fail)
                  have h1 := h1A.out
                  refine ⟨⟨i + 1, 64 * cc + b1 - 128, by rw [show ((64 * cc + b1 - 128 : Nat) : Int) = 64 * (cc : Int) + (b1 : Int) - 128 by omega], by rw [Int.natCast_add]; rfl, ⟨by omega, by omega, by omega, fun h => by omega, fun h => by omega, fun h => by omega, fun h => by omega⟩, ⟨by rw [show 4 - (i + 1) = 4 - i - 1 by omega]; exact hst.out⟩, hB2⟩, ?_⟩
                  simp [intOf]
                  omega
              · have h1b : ((i : Int) == 1) = false := by simp; omega
                have h1g : decide ((1 : Int) < (i : Int)) = true := decide_eq_true (by omega)
                have hi0 : (0 : Int) ≤ (i : Int) := by omega
                have gi := cell_stays (HA.out i (by omega)).1 hB.out
                have h256' := (HA.out i (by omega)).2
                generalize at0 l i = bi at *
                by_cases ga : bi < 128
                · have gaI : decide ((bi : Int) < 128) = true := decide_eq_true (by omega)
                  rw [if_pos (.inr ⟨by omega, .inl ga⟩)] at hstep
                  have e := Aside0.mk hstep.symm
                  clear hstep ga hN h1
                  go_wp2_with (fail)
                  go_quiet (fail)
                  have hB2 := Aside0.mk (show Below w.heap.size w (wr.drewN nq) from pw_below_drewN hB.out nq)
                  go_wp2_with (fail)
                  go_ret3
                  rw [e.out]
                  exact ⟨rfl, hB2.out⟩
                · have gaI : decide ((bi : Int) < 128) = false := decide_eq_false (by omega)
                  by_cases gc : 191 < bi
                  · have gcI : decide ((191 : Int) < (bi : Int)) = true := decide_eq_true (by omega)
                    rw [if_pos (.inr ⟨by omega, .inr gc⟩)] at hstep
                    have e := Aside0.mk hstep.symm
                    clear hstep ga gc hN h1
                    go_wp2_with (fail)
                    go_quiet (fail)
                    have hB2 := Aside0.mk (show Below w.heap.size w (wr.drewN nq) from pw_below_drewN hB.out nq)
                    go_wp2_with (fail)
                    go_ret3
                    rw [e.out]
                    exact ⟨rfl, hB2.out⟩
                  · have gcI : decide ((191 : Int) < (bi : Int)) = false := decide_eq_false (by omega)
                    rw [if_neg (by rintro (⟨h, _⟩ | ⟨_, h⟩); exact h1 h; omega)] at hstep
                    have hst := Aside0.mk hstep
                    have hge : 128 ≤ bi ∧ bi ≤ 191 := by omega
                    have h1A := Aside0.mk h1
                    clear hstep ga gc hN h1
                    go_wp2_with (fail)
                    go_quiet (fail)
                    have q1 : (wr.drewN nq).cell? (ad.add i) = some (.int .u8 (bi : Int)) := gi
                    have hB2 := Aside0.mk (show Below w.heap.size w (wr.drewN nq) from pw_below_drewN hB.out nq)
                    have u1 : IntKind.i64.wrap (64 * (cc : Int)) = 64 * (cc : Int) := by have := h1A.out; unfold IntKind.wrap; simp [IntKind.bits]; omega
                    have u2 : IntKind.i64.wrap (bi : Int) = (bi : Int) := by have := h1A.out; unfold IntKind.wrap; simp [IntKind.bits]; omega
                    have u3 : IntKind.i64.wrap (64 * (cc : Int) + (bi : Int)) = 64 * (cc : Int) + (bi : Int) := by have := h1A.out; unfold IntKind.wrap; simp [IntKind.bits]; omega
                    have u4 : IntKind.i64.wrap (64 * (cc : Int) + (bi : Int) - 128) = 64 * (cc : Int) + (bi : Int) - 128 := by have := h1A.out; unfold IntKind.wrap; simp [IntKind.bits]; omega
                    have u5 : IntKind.i64.wrap ((i : Int) + 1) = (i : Int) + 1 := by unfold IntKind.wrap; simp [IntKind.bits]; omega
                    go_wp2_with (fail)
                    have h1 := h1A.out
                    refine ⟨⟨i + 1, 64 * cc + bi - 128, by rw [show ((64 * cc + bi - 128 : Nat) : Int) = 64 * (cc : Int) + (bi : Int) - 128 by omega], by rw [Int.natCast_add]; rfl, ⟨by omega, by omega, by omega, fun h => by omega, fun h => by omega, fun h => by omega, fun h => by omega⟩, ⟨by rw [show 4 - (i + 1) = 4 - i - 1 by omega]; exact hst.out⟩, hB2⟩, ?_⟩
                    simp [intOf]
                    omega
          · have hltI : (4 : Int) ≤ (i : Int) := by omega
            have hE : i = 4 := by omega
            subst hE
            have e := Aside0.mk hN.out.symm
            clear hN
            go_wp2_with (fail)
            go_ret3
            rw [e.out]
            exact ⟨rfl, hB.out⟩
open Go.Proofs.YtmdeehblmkpddaaDoor.PPrintableR in
theorem ref_prn (c : Int) : whispererref01_Printable.f c = some (prn c) := by
  have e : ∀ b : Bool, (b = true ↔ prn c = true) → some b = some (prn c) := fun b h => congrArg some (Bool.eq_iff_iff.2 h)
  unfold whispererref01_Printable.f whispererref01_Fine.f
  repeat' split
  all_goals simp only [Option.bind_some]
  all_goals repeat' split
  all_goals first | (refine e _ ?_; simp [prn_iff]; omega) | (refine e _ ?_; simp_all [prn_iff] <;> omega)
end Go.Proofs.YtmdeehblmkpddaaDoor.Hand
