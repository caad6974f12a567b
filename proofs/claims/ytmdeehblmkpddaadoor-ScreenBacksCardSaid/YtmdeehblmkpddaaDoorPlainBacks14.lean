/- Columns gone back, in plain words. -/
import Derived.Test.YtmdeehblmkpddaaDoorHandTabOf14
namespace Go.Proofs.YtmdeehblmkpddaaDoor.Hand
open Go.RowKit
set_option linter.unusedVariables false
set_option linter.unusedSimpArgs false
/-- n times x; the place is column c. -/
def bk (n c : Nat) : SM := ⟨[List.replicate n 120], 0, c, [], 0, false, 0⟩
theorem bk_fresh : SM.fresh = bk 0 0 := rfl
theorem bk_x (i : Nat) : (bk i i).feed [120] = bk (i + 1) (i + 1) := by
  have h : (bk i i).feed [120] = (bk i i).show 120 := rfl
  rw [h]
  have hl : showL (List.replicate i 120) i 120 = List.replicate (i + 1) 120 := by
    unfold showL
    rw [List.length_replicate, show i + 1 - i = 1 by omega]
    show (List.replicate i (120 : Int) ++ [32]).set i 120 = _
    rw [List.set_append_right _ _ (by simp), List.length_replicate, Nat.sub_self, List.replicate_succ']
    rfl
  show ({ rows := [showL (List.replicate i 120) i 120], row := 0, col := i + 1, wait := [], bells := 0, pastes := false, odd := 0 } : SM) = _
  rw [hl]
  rfl
/-- A number's digits, of k places at most. -/
def decF : Nat → Nat → List UInt8
  | 0, _ => []
  | k + 1, x => if x = 0 then [] else decF k (x / 10) ++ [(48 + x % 10).toUInt8]
def backSeq (m : Nat) : List Int := (([27, 91] : List UInt8) ++ decF 3 m ++ [68]).map fun (b : UInt8) => (b.toNat : Int)
def backGood (m : Nat) : Bool :=
  (nextL (backSeq m)).2.2.2 == 0 && (nextL (backSeq m)).2.2.1.toNat == (backSeq m).length && (backSeq m).length ≤ 6 && (backSeq m).getD 0 0 == 27 &&
  (let t := (strOfNums (backSeq m)).data.toList
   t != tK && t != tH && t != tL && backOk t && ((atoiV (backP t)).toNat == m))
theorem back_good : ∀ m, m < 257 → 0 < m → backGood m = true := by decide +kernel
theorem bk_back (n c m : Nat) (h0 : 0 < m) (h1 : m < 257) : (bk n c).feed (backSeq m) = bk n (c - m) := by
  have hg := back_good m h1 h0
  unfold backGood at hg
  simp only [Bool.and_eq_true, beq_iff_eq, bne_iff_ne, decide_eq_true_eq] at hg
  obtain ⟨⟨⟨⟨g1, g2⟩, g3⟩, g4⟩, ⟨⟨⟨g5, g6⟩, g7⟩, g8⟩, g9⟩ := hg
  have hne : backSeq m ≠ [] := by
    unfold backSeq
    simp
  have hst : ((bk n c).put (backSeq m)).step = ((bk n (c - m)).put (backSeq m), (backSeq m).length) := by
    unfold SM.step
    rw [put_wait, if_pos g4, if_neg (by simp [g1]), g2, List.take_length]
    rw [seq_put, odds_put]
    have hs : (bk n c).seq (strOfNums (backSeq m)).data.toList = (bk n (c - m), true) := by
      unfold SM.seq
      rw [if_neg g5, if_neg g6, if_neg g7, if_pos g8, g9]
      rfl
    rw [hs]
    rfl
  rw [feed_all]
  show ((bk n c).put (backSeq m)).all = _
  have hl : 0 < (backSeq m).length := List.length_pos_iff.2 hne
  unfold SM.all
  rw [run_next (s := (bk n c).put (backSeq m)) hne (by rw [hst]; show (backSeq m).length ≠ 0; omega), hst, put_wait]
  show SM.run ((backSeq m).drop (backSeq m).length).length ((bk n (c - m)).put ((backSeq m).drop (backSeq m).length)) = _
  rw [List.drop_length]
  rfl
def xs (n : Nat) : ByteArray := runesBytes (List.replicate n 120)
theorem xs_zero : xs 0 = ⟨#[]⟩ := rfl
theorem xs_succ (n : Nat) : xs (n + 1) = xs n ++ ⟨#[120]⟩ := by
  unfold xs runesBytes
  rw [List.replicate_succ', List.foldl_append]
  rfl
theorem xs_size (n : Nat) : (xs n).size ≤ 4 * n := by
  have := runesBytes_size_le (List.replicate n 120)
  rw [List.length_replicate] at this
  exact this
theorem decF_zero (k : Nat) : decF k 0 = [] := by cases k <;> rfl
theorem decF_succ (k x : Nat) (h : x ≠ 0) : decF (k + 1) x = decF k (x / 10) ++ [(48 + x % 10).toUInt8] := by
  show (if x = 0 then [] else _) = _
  rw [if_neg h]
end Go.Proofs.YtmdeehblmkpddaaDoor.Hand
