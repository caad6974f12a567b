/- What is rendered, fed to a screen, in plain words. -/
import Derived.Test.YtmdeehblmkpddaaDoorPlainTyped14
import Derived.Test.YtmdeehblmkpddaaDoorHandRender
import Derived.Test.YtmdeehblmkpddaaDoorPCharsx3
import Derived.Deep.RegionHeld3
import Derived.LoopTactic
namespace Go.Proofs.YtmdeehblmkpddaaDoor.Hand
open Go.RowKit Go.Proofs.YtmdeehblmkpddaaDoorW.PrintWords Go.Proofs.YtmdeehblmkpddaaDoorW.PrintLast
set_option linter.unusedVariables false
set_option linter.unusedSimpArgs false
theorem encode_encV (c : Int) (h : isChar c = true) : Utf8.encode c = strOfNums (enc c) := by
  have h' := (isChar_iff c).1 h
  obtain ⟨n, rfl⟩ : ∃ n : Nat, c = n := ⟨c.toNat, by omega⟩
  have hv : Utf8.valid (n : Int) = true := by
    unfold Utf8.valid
    simp
    omega
  unfold Utf8.encode enc
  rw [if_pos hv]
  simp only [Int.toNat_natCast]
  by_cases h1 : n < 128
  · rw [if_pos h1, if_pos (show (n : Int) < 128 by omega)]
    simp [strOfNums]
  · rw [if_neg h1, if_neg (show ¬ (n : Int) < 128 by omega)]
    by_cases h2 : n < 2048
    · rw [if_pos h2, if_pos (show (n : Int) < 2048 by omega)]
      have e0 : (192 + (n : Int) / 64).toNat = 192 + n / 64 := by omega
      have e1 : (128 + (n : Int) % 64).toNat = 128 + n % 64 := by omega
      simp [strOfNums, e0, e1]
    · rw [if_neg h2, if_neg (show ¬ (n : Int) < 2048 by omega)]
      by_cases h3 : n < 65536
      · rw [if_pos h3, if_pos (show (n : Int) < 65536 by omega)]
        have e0 : (224 + (n : Int) / 4096).toNat = 224 + n / 4096 := by omega
        have e1 : (128 + (n : Int) / 64 % 64).toNat = 128 + n / 64 % 64 := by omega
        have e2 : (128 + (n : Int) % 64).toNat = 128 + n % 64 := by omega
        simp [strOfNums, e0, e1, e2]
      · rw [if_neg h3, if_neg (show ¬ (n : Int) < 65536 by omega)]
        have e0 : (240 + (n : Int) / 262144).toNat = 240 + n / 262144 := by omega
        have e1 : (128 + (n : Int) / 4096 % 64).toNat = 128 + n / 4096 % 64 := by omega
        have e2 : (128 + (n : Int) / 64 % 64).toNat = 128 + n / 64 % 64 := by omega
        have e3 : (128 + (n : Int) % 64).toNat = 128 + n % 64 := by omega
        simp [strOfNums, e0, e1, e2, e3]
theorem nums_appV (a b : List Int) : strOfNums (a ++ b) = strOfNums a ++ strOfNums b := by
  apply ByteArray.ext
  simp [strOfNums]
theorem runes_fromV : ∀ (l : List Int) (s : List Int), (∀ x ∈ l, isChar x = true) → l.foldl (fun r n => r ++ Utf8.encode n) (strOfNums s) = strOfNums (s ++ l.flatMap enc)
  | [], s, _ => by simp
  | c :: r, s, h => by
    rw [List.foldl_cons, encode_encV c (h c (by simp)), ← nums_appV, runes_fromV r _ (fun x hx => h x (by simp [hx]))]
    simp
theorem runes_textV (l : List Int) (h : ∀ x ∈ l, isChar x = true) : runesBytes l = strOfNums (l.flatMap enc) := by
  have := runes_fromV l [] h
  rw [List.nil_append] at this
  exact this
theorem enc_nx4 (n a b c d : Nat) (ha : a < 256) (hb : b < 256) (hc : c < 256) (hd : d < 256) (h : (nx n a b c d).2.2 = 0) :
    enc ((nx n a b c d).1 : Int) = ([(a : Int), b, c, d]).take (nx n a b c d).2.1 := by
  unfold nx at h ⊢
  by_cases h1 : a < 128
  · simp only [h1, if_true]
    unfold enc
    rw [if_pos (by omega)]
    rfl
  by_cases h2 : a < 194 ∨ 244 < a
  · simp [h1, h2] at h
  by_cases h3 : n < 2
  · simp [h1, h2, h3] at h
  by_cases h4 : b < nlo a ∨ nhi a < b
  · simp [h1, h2, h3, h4] at h
  simp only [h1, h2, h3, h4, if_false] at h ⊢
  have h4' := h4
  unfold nlo nhi at h4'
  by_cases h5 : a < 224
  · simp only [h5, if_true] at h ⊢
    have hb2 : 128 ≤ b ∧ b ≤ 191 := by
      rw [if_neg (by omega), if_neg (by omega), if_neg (by omega), if_neg (by omega)] at h4'
      omega
    unfold enc
    rw [if_neg (by omega), if_pos (by omega)]
    show [192 + ((a % 32 * 64 + b % 64 : Nat) : Int) / 64, 128 + ((a % 32 * 64 + b % 64 : Nat) : Int) % 64] = [(a : Int), (b : Int)]
    rw [show 192 + ((a % 32 * 64 + b % 64 : Nat) : Int) / 64 = (a : Int) by omega, show 128 + ((a % 32 * 64 + b % 64 : Nat) : Int) % 64 = (b : Int) by omega]
  simp only [h5, if_false] at h ⊢
  have hbr : 128 ≤ b ∧ b ≤ 191 := by
    repeat' split at h4'
    all_goals omega
  have hlo : a = 224 → 160 ≤ b := fun e => by rw [if_pos e] at h4'; omega
  have hlo2 : a = 240 → 144 ≤ b := fun e => by rw [if_neg (by omega), if_pos e] at h4'; omega
  have hhi2 : a = 244 → b ≤ 143 := fun e => by
    rw [if_neg (show ¬ a = 237 by omega), if_pos e] at h4'
    omega
  clear h4' h4
  by_cases h6 : n < 3
  · simp [h6] at h
  by_cases h7 : c < 128 ∨ 191 < c
  · simp [h6, h7] at h
  simp only [h6, h7, if_false] at h ⊢
  by_cases h8 : a < 240
  · simp only [h8, if_true] at h ⊢
    unfold enc
    rw [if_neg (by omega), if_neg (by omega), if_pos (by omega)]
    show [224 + ((a % 16 * 4096 + b % 64 * 64 + c % 64 : Nat) : Int) / 4096, 128 + ((a % 16 * 4096 + b % 64 * 64 + c % 64 : Nat) : Int) / 64 % 64, 128 + ((a % 16 * 4096 + b % 64 * 64 + c % 64 : Nat) : Int) % 64] = [(a : Int), (b : Int), (c : Int)]
    rw [show 224 + ((a % 16 * 4096 + b % 64 * 64 + c % 64 : Nat) : Int) / 4096 = (a : Int) by omega, show 128 + ((a % 16 * 4096 + b % 64 * 64 + c % 64 : Nat) : Int) / 64 % 64 = (b : Int) by omega, show 128 + ((a % 16 * 4096 + b % 64 * 64 + c % 64 : Nat) : Int) % 64 = (c : Int) by omega]
  simp only [h8, if_false] at h ⊢
  by_cases h9 : n < 4
  · simp [h9] at h
  by_cases h10 : d < 128 ∨ 191 < d
  · simp [h9, h10] at h
  simp only [h9, h10, if_false] at h ⊢
  unfold enc
  rw [if_neg (by omega), if_neg (by omega), if_neg (by omega)]
  show [240 + ((a % 8 * 262144 + b % 64 * 4096 + c % 64 * 64 + d % 64 : Nat) : Int) / 262144, 128 + ((a % 8 * 262144 + b % 64 * 4096 + c % 64 * 64 + d % 64 : Nat) : Int) / 4096 % 64, 128 + ((a % 8 * 262144 + b % 64 * 4096 + c % 64 * 64 + d % 64 : Nat) : Int) / 64 % 64, 128 + ((a % 8 * 262144 + b % 64 * 4096 + c % 64 * 64 + d % 64 : Nat) : Int) % 64] = [(a : Int), (b : Int), (c : Int), (d : Int)]
  rw [show 240 + ((a % 8 * 262144 + b % 64 * 4096 + c % 64 * 64 + d % 64 : Nat) : Int) / 262144 = (a : Int) by omega, show 128 + ((a % 8 * 262144 + b % 64 * 4096 + c % 64 * 64 + d % 64 : Nat) : Int) / 4096 % 64 = (b : Int) by omega, show 128 + ((a % 8 * 262144 + b % 64 * 4096 + c % 64 * 64 + d % 64 : Nat) : Int) / 64 % 64 = (c : Int) by omega, show 128 + ((a % 8 * 262144 + b % 64 * 4096 + c % 64 * 64 + d % 64 : Nat) : Int) % 64 = (d : Int) by omega]
theorem nx_fits (n a b c d : Nat) (h : (nx n a b c d).2.2 = 0) (hn : 1 ≤ n) : (nx n a b c d).2.1 ≤ n ∧ (nx n a b c d).2.1 ≤ 4 := by
  unfold nx at h ⊢
  repeat' split
  all_goals (simp_all; try omega)
theorem take_at0 (l : List Int) (hb : ∀ x ∈ l, 0 ≤ x ∧ x ≤ 255) (k : Nat) (h1 : k ≤ l.length) (h4 : k ≤ 4) : ([(at0 l 0 : Int), at0 l 1, at0 l 2, at0 l 3]).take k = l.take k := by
  have e : ∀ j, j < l.length → ((at0 l j : Nat) : Int) = l.getD j 0 := fun j hj => (at0_cast hb j hj).1
  apply List.ext_getElem
  · simp; omega
  · intro i hi1 hi2
    rw [List.length_take] at hi1 hi2
    have hi : i < l.length := by omega
    rw [List.getElem_take, List.getElem_take]
    have e2 := e i hi
    rw [List.getD_eq_getElem?_getD, List.getElem?_eq_getElem hi] at e2
    rcases (show i = 0 ∨ i = 1 ∨ i = 2 ∨ i = 3 by omega) with rfl | rfl | rfl | rfl <;> exact e2
theorem enc_next {l : List Int} (hb : ∀ x ∈ l, 0 ≤ x ∧ x ≤ 255) (h0 : l ≠ []) (h : (nxL l).2.2 = 0) : enc ((nxL l).1 : Int) = l.take (nxL l).2.1 := by
  have hl : 1 ≤ l.length := List.length_pos_iff.2 h0
  have e : nxL l = nx l.length (at0 l 0) (at0 l 1) (at0 l 2) (at0 l 3) := by
    unfold nxL
    rw [if_neg h0]
  rw [e] at h ⊢
  have hf := nx_fits _ _ _ _ _ h hl
  rw [enc_nx4 _ _ _ _ _ (at0_lt hb 0) (at0_lt hb 1) (at0_lt hb 2) (at0_lt hb 3) h, take_at0 l hb _ hf.1 hf.2]
/-- The characters of a text that is right. -/
def runesF : Nat → List Int → List Int
  | 0, _ => []
  | k + 1, l => if l = [] then [] else ((nxL l).1 : Int) :: runesF k (l.drop (nxL l).2.1)
theorem runesF_succ (k : Nat) (l : List Int) : runesF (k + 1) l = if l = [] then [] else ((nxL l).1 : Int) :: runesF k (l.drop (nxL l).2.1) := rfl
theorem fine_runes : ∀ (k : Nat) (l : List Int), l.length ≤ k → (∀ x ∈ l, 0 ≤ x ∧ x ≤ 255) → fineL k l = true → (runesF k l).flatMap enc = l ∧ ∀ c ∈ runesF k l, prn c = true
  | 0, l, hl, _, _ => by
    have : l = [] := List.eq_nil_of_length_eq_zero (by omega)
    subst this
    exact ⟨rfl, fun c hc => by cases hc⟩
  | k + 1, l, hl, hb, h => by
    rw [runesF_succ]
    rw [fineL_succ] at h
    by_cases h0 : l = []
    · rw [if_pos h0]
      subst h0
      exact ⟨rfl, fun c hc => by cases hc⟩
    · rw [if_neg h0]
      rw [if_neg h0] at h
      by_cases hc : (nxL l).2.2 = 0 ∧ prn ((nxL l).1 : Int) = true
      · rw [if_pos hc] at h
        have hle := nxS_le h0
        have hr := fine_runes k (l.drop (nxL l).2.1) (by rw [List.length_drop]; omega) (fun x hx => hb x (List.mem_of_mem_drop hx)) h
        refine ⟨?_, fun c hcm => ?_⟩
        · rw [List.flatMap_cons, hr.1, enc_next hb h0 hc.1, List.take_append_drop]
        · rcases List.mem_cons.1 hcm with rfl | hcm
          · exact hc.2
          · exact hr.2 c hcm
      · rw [if_neg hc] at h
        cases h
theorem ty_many (x : List Int) : ∀ (cs y : List Int), (∀ c ∈ cs, prn c = true) → (ty x y).feed (cs.flatMap enc) = ty x (y ++ cs)
  | [], y, _ => by
    rw [List.append_nil]
    exact feed_nil' rfl
  | c :: cs, y, h => by
    rw [List.flatMap_cons, ← feed_app, ty_show x y c (h c (by simp)), ty_many x cs (y ++ [c]) (fun d hd => h d (by simp [hd])), List.append_assoc]
    rfl
theorem cut_good : (nextL [27, 91, 75]).2.2.2 = 0 ∧ (nextL [27, 91, 75]).2.2.1.toNat = 3 ∧ (strOfNums [27, 91, 75]).data.toList = tK := by decide +kernel
theorem ty_cut (x y : List Int) : (ty x y).feed [27, 91, 75] = ty [] y := by
  have hst : ((ty x y).put [27, 91, 75]).step = ((ty [] y).put [27, 91, 75], 3) := by
    unfold SM.step
    rw [put_wait, if_pos (show ([27, 91, 75] : List Int).getD 0 0 = 27 from rfl), if_neg (by simp [cut_good.1]), cut_good.2.1]
    rw [show ([27, 91, 75] : List Int).take 3 = [27, 91, 75] from rfl, cut_good.2.2, seq_put, odds_put]
    have hs : (ty x y).seq tK = (ty [] y, true) := by
      unfold SM.seq
      rw [if_pos rfl]
      refine Prod.ext ?_ rfl
      show (ty x y).cut = ty [] y
      unfold SM.cut
      show (⟨[(y ++ x.drop y.length).take y.length], 0, y.length, [], 0, false, 0⟩ : SM) = ty [] y
      rw [List.take_left]
      unfold ty
      simp
    rw [hs]
    rfl
  rw [feed_all]
  show ((ty x y).put [27, 91, 75]).all = _
  unfold SM.all
  rw [run_next (s := (ty x y).put [27, 91, 75]) (by rw [put_wait]; simp) (by rw [hst]; show (3 : Nat) ≠ 0; decide), hst, put_wait]
  rfl
/-- The row y, the place d columns ahead of its end. -/
def tyb (y : List Int) (d : Nat) : SM := ⟨[y], 0, y.length - d, [], 0, false, 0⟩
theorem tyb_zero (y : List Int) : ty [] y = tyb y 0 := by
  unfold ty tyb
  simp
def digF : Nat → Nat → List UInt8
  | 0, _ => []
  | k + 1, x => if x = 0 then [] else digF k (x / 10) ++ [(48 + x % 10).toUInt8]
def backSeq' (m : Nat) : List Int := (([27, 91] : List UInt8) ++ digF 4 m ++ [68]).map fun (b : UInt8) => (b.toNat : Int)
def backGood' (m : Nat) : Bool :=
  (nextL (backSeq' m)).2.2.2 == 0 && (nextL (backSeq' m)).2.2.1.toNat == (backSeq' m).length && (backSeq' m).length ≤ 7 && (backSeq' m).getD 0 0 == 27 && Lib.itoa (m : Int) == digF 4 m &&
  (let t := (strOfNums (backSeq' m)).data.toList
   t != tK && t != tH && t != tL && backOk t && ((atoiV (backP t)).toNat == m))
theorem back_good' : ∀ m, m < 1025 → 0 < m → backGood' m = true := by decide +kernel
theorem ty_backs (y : List Int) (m : Nat) (h0 : 0 < m) (h1 : m < 1025) : (ty [] y).feed (backL (m : Int)) = tyb y m := by
  have hg := back_good' m h1 h0
  unfold backGood' at hg
  simp only [Bool.and_eq_true, beq_iff_eq, bne_iff_ne, decide_eq_true_eq] at hg
  obtain ⟨⟨⟨⟨⟨g1, g2⟩, g3⟩, g4⟩, g0⟩, ⟨⟨⟨g5, g6⟩, g7⟩, g8⟩, g9⟩ := hg
  have hb : backL (m : Int) = backSeq' m := by
    unfold backL itoaI backSeq'
    rw [if_pos (by omega), g0]
    simp
  rw [hb]
  have hne : backSeq' m ≠ [] := by
    unfold backSeq'
    simp
  have hst : ((ty [] y).put (backSeq' m)).step = ((tyb y m).put (backSeq' m), (backSeq' m).length) := by
    unfold SM.step
    rw [put_wait, if_pos g4, if_neg (by simp [g1]), g2, List.take_length]
    rw [seq_put, odds_put]
    have hs : (ty [] y).seq (strOfNums (backSeq' m)).data.toList = (tyb y m, true) := by
      unfold SM.seq
      rw [if_neg g5, if_neg g6, if_neg g7, if_pos g8, g9]
      unfold ty tyb
      simp
    rw [hs]
    rfl
  rw [feed_all]
  show ((ty [] y).put (backSeq' m)).all = _
  have hl : 0 < (backSeq' m).length := List.length_pos_iff.2 hne
  unfold SM.all
  rw [run_next (s := (ty [] y).put (backSeq' m)) hne (by rw [hst]; show (backSeq' m).length ≠ 0; omega), hst, put_wait]
  show SM.run ((backSeq' m).drop (backSeq' m).length).length ((tyb y m).put ((backSeq' m).drop (backSeq' m).length)) = _
  rw [List.drop_length]
  rfl
theorem ty_back_l (y : List Int) (m : Nat) (h1 : m < 1025) : (ty [] y).feed (backL (m : Int)) = tyb y m := by
  rcases Nat.eq_zero_or_pos m with rfl | h
  · rw [← tyb_zero]
    exact feed_nil' rfl
  · exact ty_backs y m h h1
theorem stars_enc : ∀ n : Nat, (List.replicate n (42 : Int)).flatMap enc = List.replicate n 42
  | 0 => rfl
  | n + 1 => by
    rw [List.replicate_succ, List.flatMap_cons, stars_enc n]
    rfl
theorem prn_star : prn 42 = true := by decide
end Go.Proofs.YtmdeehblmkpddaaDoor.Hand

namespace Go.Proofs.YtmdeehblmkpddaaDoor.Hand
open Go.RowKit Go.Proofs.YtmdeehblmkpddaaDoor.PChars Go.Proofs.YtmdeehblmkpddaaDoorW.PrintWords Go.Proofs.YtmdeehblmkpddaaDoorW.PrintLast
set_option linter.unusedVariables false
set_option linter.unusedSimpArgs false

def szN (b : Nat) : Nat := if b < 128 then 1 else if b < 194 then 0 else if b < 224 then 2 else if b < 240 then 3 else if b < 245 then 4 else 0
theorem size_eq (k b : Nat) : whispererref01_size.f (k + 2) (b : Int) = some (szN b : Int) := by
  unfold whispererref01_size.f szN
  by_cases c1 : b < 128
  · rw [if_pos (by omega), if_pos c1]; rfl
  · rw [if_neg (by omega), if_neg c1]
    by_cases c2 : b < 194
    · rw [if_neg (by omega), if_pos c2, whispererref01_size.j0, if_neg (by decide), if_neg (by omega), whispererref01_size.j1, if_neg (by decide), if_neg (by omega)]; rfl
    · rw [if_pos (by omega), if_neg c2, whispererref01_size.j0]
      by_cases c3 : b < 224
      · rw [if_pos (decide_eq_true (by omega)), if_pos c3]; rfl
      · rw [if_neg (by rw [decide_eq_false (by omega)]; decide), if_neg c3, if_pos (by omega), whispererref01_size.j1]
        by_cases c4 : b < 240
        · rw [if_pos (decide_eq_true (by omega)), if_pos c4]; rfl
        · rw [if_neg (by rw [decide_eq_false (by omega)]; decide), if_neg c4, if_pos (by omega)]
          by_cases c5 : b < 245
          · rw [if_pos (by omega), if_pos c5]; rfl
          · rw [if_neg (by omega), if_neg c5]; rfl
theorem second_eq (a c : Nat) : whispererref01_second.f (a : Int) (c : Int) = some (decide (¬ (c < nlo a ∨ nhi a < c))) := by
  have fin (x : Bool) (p : Prop) [Decidable p] (h : x = true ↔ p) : some x = some (decide p) := congrArg some (Bool.eq_iff_iff.2 (by simpa using h))
  unfold whispererref01_second.f
  by_cases c1 : a = 224
  · have e1 : nlo a = 160 := by unfold nlo; rw [if_pos c1]
    have e2 : nhi a = 191 := by unfold nhi; rw [if_neg (by omega), if_neg (by omega)]
    rw [if_pos (by omega), e1, e2]
    split
    · exact fin _ _ (by rw [decide_eq_true_iff]; omega)
    · exact fin _ _ (by simp; omega)
  · rw [if_neg (by omega)]
    by_cases c2 : a = 237
    · have e1 : nlo a = 128 := by unfold nlo; rw [if_neg (by omega), if_neg (by omega)]
      have e2 : nhi a = 159 := by unfold nhi; rw [if_pos c2]
      rw [if_pos (by omega), e1, e2]
      split
      · exact fin _ _ (by rw [decide_eq_true_iff]; omega)
      · exact fin _ _ (by simp; omega)
    · rw [if_neg (by omega)]
      by_cases c3 : a = 240
      · have e1 : nlo a = 144 := by unfold nlo; rw [if_neg (by omega), if_pos c3]
        have e2 : nhi a = 191 := by unfold nhi; rw [if_neg (by omega), if_neg (by omega)]
        rw [if_pos (by omega), e1, e2]
        split
        · exact fin _ _ (by rw [decide_eq_true_iff]; omega)
        · exact fin _ _ (by simp; omega)
      · rw [if_neg (by omega)]
        have e1 : nlo a = 128 := by unfold nlo; rw [if_neg (by omega), if_neg (by omega)]
        by_cases c4 : a = 244
        · have e2 : nhi a = 143 := by unfold nhi; rw [if_neg (by omega), if_pos c4]
          rw [if_pos (by omega), e1, e2]
          split
          · exact fin _ _ (by rw [decide_eq_true_iff]; omega)
          · exact fin _ _ (by simp; omega)
        · have e2 : nhi a = 191 := by unfold nhi; rw [if_neg (by omega), if_neg (by omega)]
          rw [if_neg (by omega), e1, e2]
          split
          · exact fin _ _ (by rw [decide_eq_true_iff]; omega)
          · exact fin _ _ (by simp; omega)
theorem wr64 {x : Int} (h0 : -9223372036854775808 ≤ x) (h1 : x ≤ 9223372036854775807) : wrap64 x = x := by unfold wrap64; omega
theorem rd_at0 {l : List Int} (hb : ∀ x ∈ l, 0 ≤ x ∧ x ≤ 255) (j : Nat) (hj : j < l.length) : rd l (j : Int) = (at0 l j : Int) := by
  unfold rd
  rw [(at0_cast hb j hj).1]
  simp [hj]

theorem l0_end (k : Nat) (l : List Int) (s v i : Int) (h : ¬ i < s) : whispererref01_Next.l0 (k + 1) l s v i = some (v, s, 0) := by
  rw [whispererref01_Next.l0, if_neg h]
theorem l0_short (k : Nat) (l : List Int) (s v i : Int) (h : i < s) (h2 : i = (l.length : Int)) : whispererref01_Next.l0 (k + 1) l s v i = some (0, i, 7) := by
  rw [whispererref01_Next.l0, if_pos h, if_pos h2]
theorem l0_one {l : List Int} (hb : ∀ x ∈ l, 0 ≤ x ∧ x ≤ 255) (k : Nat) (s : Int) (v : Nat) (h : 1 < s) (h2 : 1 < l.length) (hv : v < 32) :
    whispererref01_Next.l0 (k + 1) l s (v : Int) 1 = if at0 l 1 < nlo (at0 l 0) ∨ nhi (at0 l 0) < at0 l 1 then some (0, 1, 8) else whispererref01_Next.l0 k l s (64 * (v : Int) + (at0 l 1 : Int) - 128) 2 := by
  have r0 := rd_at0 hb 0 (by omega)
  have r1 := rd_at0 hb 1 h2
  have l1 := at0_lt hb 1
  rw [show ((0 : Nat) : Int) = 0 from rfl] at r0
  rw [show ((1 : Nat) : Int) = 1 from rfl] at r1
  rw [whispererref01_Next.l0, if_pos h, if_neg (by omega), if_pos rfl, if_pos (by omega), if_pos (by omega), r0, r1, second_eq, Option.bind_some]
  by_cases c : at0 l 1 < nlo (at0 l 0) ∨ nhi (at0 l 0) < at0 l 1
  · rw [if_pos c, decide_eq_false (fun h => h c), if_neg (by decide)]
  · rw [if_neg c, decide_eq_true c, if_pos rfl, if_neg (by omega), if_pos (by omega), if_pos (by omega)]
    rw [wr64 (x := 64 * (v : Int)) (by omega) (by omega), wr64 (x := (at0 l 1 : Int)) (by omega) (by omega), wr64 (x := 64 * (v : Int) + (at0 l 1 : Int)) (by omega) (by omega), wr64 (x := 64 * (v : Int) + (at0 l 1 : Int) - 128) (by omega) (by omega), wr64 (x := (1 + 1 : Int)) (by omega) (by omega)]
    rfl
theorem l0_more {l : List Int} (hb : ∀ x ∈ l, 0 ≤ x ∧ x ≤ 255) (k : Nat) (s : Int) (v : Int) (i : Nat) (hi : 2 ≤ i) (hi2 : i ≤ 3) (h : (i : Int) < s) (h2 : i < l.length) (hv0 : 0 ≤ v) (hv : v < 262144) :
    whispererref01_Next.l0 (k + 1) l s v (i : Int) = if at0 l i < 128 ∨ 191 < at0 l i then some (0, (i : Int), 8) else whispererref01_Next.l0 k l s (64 * v + at0 l i - 128) ((i + 1 : Nat) : Int) := by
  have r1 := rd_at0 hb i h2
  have l1 := at0_lt hb i
  rw [whispererref01_Next.l0, if_pos h, if_neg (by omega), if_neg (by omega), if_pos (by omega), if_pos (by omega), if_pos (by omega), r1]
  by_cases c1 : at0 l i < 128
  · rw [if_pos (by omega), if_pos (.inl c1)]
  · rw [if_neg (by omega)]
    by_cases c2 : 191 < at0 l i
    · rw [if_pos (by omega), if_pos (.inr c2)]
    · rw [if_neg (by omega), if_neg (by omega)]
      rw [wr64 (x := 64 * v) (by omega) (by omega), wr64 (x := (at0 l i : Int)) (by omega) (by omega), wr64 (x := 64 * v + (at0 l i : Int)) (by omega) (by omega), wr64 (x := 64 * v + (at0 l i : Int) - 128) (by omega) (by omega), wr64 (x := (i : Int) + 1) (by omega) (by omega)]
      rfl

theorem l0_core {l : List Int} (hb : ∀ x ∈ l, 0 ≤ x ∧ x ≤ 255) (k sz v : Nat) (h2 : 2 ≤ sz) (h4 : sz ≤ 4) (hv : v < 32) (hl : 1 ≤ l.length) :
    whispererref01_Next.l0 (k + 4) l (sz : Int) (v : Int) 1 =
      if l.length < 2 then some (0, 1, 7) else if at0 l 1 < nlo (at0 l 0) ∨ nhi (at0 l 0) < at0 l 1 then some (0, 1, 8)
      else if sz = 2 then some (64 * (v : Int) + at0 l 1 - 128, 2, 0) else if l.length < 3 then some (0, 2, 7)
      else if at0 l 2 < 128 ∨ 191 < at0 l 2 then some (0, 2, 8) else if sz = 3 then some (64 * (64 * (v : Int) + at0 l 1 - 128) + at0 l 2 - 128, 3, 0)
      else if l.length < 4 then some (0, 3, 7) else if at0 l 3 < 128 ∨ 191 < at0 l 3 then some (0, 3, 8) else some (64 * (64 * (64 * (v : Int) + at0 l 1 - 128) + at0 l 2 - 128) + at0 l 3 - 128, 4, 0) := by
  have l1 := at0_lt hb 1
  have l2 := at0_lt hb 2
  have n128 : 128 ≤ nlo (at0 l 0) := by unfold nlo; (repeat' split) <;> omega
  by_cases c1 : l.length < 2
  · rw [if_pos c1]
    have := l0_short (k + 3) l (sz : Int) (v : Int) 1 (by omega) (by omega)
    exact this
  · rw [if_neg c1, l0_one hb (k + 3) (sz : Int) v (by omega) (by omega) hv]
    by_cases c2 : at0 l 1 < nlo (at0 l 0) ∨ nhi (at0 l 0) < at0 l 1
    · rw [if_pos c2, if_pos c2]
    · rw [if_neg c2, if_neg c2]
      by_cases c3 : sz = 2
      · rw [if_pos c3, l0_end (k + 2) _ _ _ _ (by omega), c3]; rfl
      · rw [if_neg c3]
        by_cases c4 : l.length < 3
        · rw [if_pos c4, l0_short (k + 2) _ _ _ _ (by omega) (by omega)]
        · rw [if_neg c4]
          have m2 := l0_more hb (k + 2) (sz : Int) (64 * (v : Int) + at0 l 1 - 128) 2 (by omega) (by omega) (by omega) (by omega) (by omega) (by omega)
          rw [show ((2 : Nat) : Int) = 2 from rfl] at m2
          rw [m2]
          by_cases c5 : at0 l 2 < 128 ∨ 191 < at0 l 2
          · rw [if_pos c5, if_pos c5]
          · rw [if_neg c5, if_neg c5]
            by_cases c6 : sz = 3
            · rw [if_pos c6, l0_end (k + 1) _ _ _ _ (by omega), c6]; rfl
            · rw [if_neg c6]
              by_cases c7 : l.length < 4
              · rw [if_pos c7, l0_short (k + 1) _ _ _ _ (by omega) (by omega)]; rfl
              · rw [if_neg c7]
                have m3 := l0_more hb (k + 1) (sz : Int) (64 * (64 * (v : Int) + at0 l 1 - 128) + at0 l 2 - 128) 3 (by omega) (by omega) (by omega) (by omega) (by omega) (by omega)
                rw [show ((3 : Nat) : Int) = 3 from rfl] at m3
                rw [show ((2 + 1 : Nat) : Int) = 3 from rfl, m3]
                by_cases c8 : at0 l 3 < 128 ∨ 191 < at0 l 3
                · rw [if_pos c8, if_pos c8]
                · rw [if_neg c8, if_neg c8, l0_end k _ _ _ _ (by omega), show sz = 4 by omega]; rfl

/-- The document's Next is nxL. -/
theorem ref_next {l : List Int} (hb : ∀ x ∈ l, 0 ≤ x ∧ x ≤ 255) (k : Nat) : whispererref01_Next.f (k + 7) l = some (((nxL l).1 : Int), ((nxL l).2.1 : Int), ((nxL l).2.2 : Int)) := by
  unfold whispererref01_Next.f nxL
  by_cases hl : l = []
  · subst hl
    rfl
  · have h1 : 1 ≤ l.length := List.length_pos_iff.2 hl
    have r0 := rd_at0 hb 0 h1
    rw [show ((0 : Nat) : Int) = 0 from rfl] at r0
    have b0 := at0_lt hb 0
    have b1 := at0_lt hb 1
    have b2 := at0_lt hb 2
    have b3 := at0_lt hb 3
    rw [if_neg (by omega), if_pos (by omega), if_neg hl, r0, size_eq (k + 5), Option.bind_some, wr64 (by omega) (by omega)]
    unfold szN nx
    generalize hc0 : at0 l 0 = c0 at *
    by_cases c1 : c0 < 128
    · rw [if_pos c1, if_pos c1, if_neg (by decide), if_pos (by decide)]; rfl
    rw [if_neg c1, if_neg c1]
    by_cases c2 : c0 < 194
    · rw [if_pos c2, if_pos (by decide), if_pos (.inl c2)]; rfl
    rw [if_neg c2]
    have q (sz v : Nat) (h2 : 2 ≤ sz) (h4 : sz ≤ 4) (hv : v < 32) := l0_core hb (k + 1) sz v h2 h4 hv h1
    rw [hc0] at q
    by_cases c3 : c0 < 224
    · rw [if_pos c3, if_neg (by decide), if_neg (by decide), if_neg (by decide), if_neg (by omega), if_pos c3]
      rw [whispererref01_Next.j0, if_neg (by decide), whispererref01_Next.j1, Int.tmod_eq_emod_of_nonneg (by omega), show ((c0 : Int) % 32) = ((c0 % 32 : Nat) : Int) by omega, q 2 (c0 % 32) (by omega) (by omega) (by omega)]
      rw [if_pos rfl]
      have : nlo c0 = 128 := by unfold nlo; rw [if_neg (by omega), if_neg (by omega)]
      have : nhi c0 = 191 := by unfold nhi; rw [if_neg (by omega), if_neg (by omega)]
      by_cases d1 : l.length < 2
      · rw [if_pos d1, if_pos d1]; rfl
      · rw [if_neg d1, if_neg d1]
        by_cases d2 : at0 l 1 < nlo c0 ∨ nhi c0 < at0 l 1
        · rw [if_pos d2, if_pos d2]; rfl
        · rw [if_neg d2, if_neg d2]
          refine congrArg some (Prod.ext ?_ rfl)
          show 64 * ((c0 % 32 : Nat) : Int) + at0 l 1 - 128 = ((c0 % 32 * 64 + at0 l 1 % 64 : Nat) : Int)
          omega
    have n128 : 128 ≤ nlo c0 ∧ nhi c0 ≤ 191 := by unfold nlo nhi; constructor <;> (repeat' split) <;> omega
    by_cases c4 : c0 < 240
    · rw [if_neg c3, if_pos c4, if_neg (by decide), if_neg (by decide), if_pos (by decide), if_neg (by omega), if_neg c3, if_pos c4]
      rw [whispererref01_Next.j0, if_neg (by decide), whispererref01_Next.j1, Int.tmod_eq_emod_of_nonneg (by omega), show ((c0 : Int) % 16) = ((c0 % 16 : Nat) : Int) by omega, q 3 (c0 % 16) (by omega) (by omega) (by omega)]
      rw [if_neg (show ¬ (3 : Nat) = 2 by decide), if_pos (show (3 : Nat) = 3 from rfl)]
      by_cases d1 : l.length < 2
      · rw [if_pos d1, if_pos d1]; rfl
      · rw [if_neg d1, if_neg d1]
        by_cases d2 : at0 l 1 < nlo c0 ∨ nhi c0 < at0 l 1
        · rw [if_pos d2, if_pos d2]; rfl
        · rw [if_neg d2, if_neg d2]
          by_cases d3 : l.length < 3
          · rw [if_pos d3, if_pos d3]; rfl
          · rw [if_neg d3, if_neg d3]
            by_cases d4 : at0 l 2 < 128 ∨ 191 < at0 l 2
            · rw [if_pos d4, if_pos d4]; rfl
            · rw [if_neg d4, if_neg d4]
              refine congrArg some (Prod.ext ?_ rfl)
              show 64 * (64 * ((c0 % 16 : Nat) : Int) + at0 l 1 - 128) + at0 l 2 - 128 = ((c0 % 16 * 4096 + at0 l 1 % 64 * 64 + at0 l 2 % 64 : Nat) : Int)
              omega
    by_cases c5 : c0 < 245
    · rw [if_neg c3, if_neg c4, if_pos c5, if_neg (by decide), if_neg (by decide), if_neg (by decide), if_neg (by omega), if_neg c3, if_neg c4]
      rw [whispererref01_Next.j0, if_pos (by decide), if_pos (by omega), r0, wr64 (by omega) (by omega), whispererref01_Next.j1, Int.tmod_eq_emod_of_nonneg (by omega), show ((c0 : Int) % 8) = ((c0 % 8 : Nat) : Int) by omega, q 4 (c0 % 8) (by omega) (by omega) (by omega)]
      rw [if_neg (show ¬ (4 : Nat) = 2 by decide), if_neg (show ¬ (4 : Nat) = 3 by decide)]
      by_cases d1 : l.length < 2
      · rw [if_pos d1, if_pos d1]; rfl
      · rw [if_neg d1, if_neg d1]
        by_cases d2 : at0 l 1 < nlo c0 ∨ nhi c0 < at0 l 1
        · rw [if_pos d2, if_pos d2]; rfl
        · rw [if_neg d2, if_neg d2]
          by_cases d3 : l.length < 3
          · rw [if_pos d3, if_pos d3]; rfl
          · rw [if_neg d3, if_neg d3]
            by_cases d4 : at0 l 2 < 128 ∨ 191 < at0 l 2
            · rw [if_pos d4, if_pos d4]; rfl
            · rw [if_neg d4, if_neg d4]
              by_cases d5 : l.length < 4
              · rw [if_pos d5, if_pos d5]; rfl
              · rw [if_neg d5, if_neg d5]
                by_cases d6 : at0 l 3 < 128 ∨ 191 < at0 l 3
                · rw [if_pos d6, if_pos d6]; rfl
                · rw [if_neg d6, if_neg d6]
                  refine congrArg some (Prod.ext ?_ rfl)
                  show 64 * (64 * (64 * ((c0 % 8 : Nat) : Int) + at0 l 1 - 128) + at0 l 2 - 128) + at0 l 3 - 128 = ((c0 % 8 * 262144 + at0 l 1 % 64 * 4096 + at0 l 2 % 64 * 64 + at0 l 3 % 64 : Nat) : Int)
                  omega
    · rw [if_neg c3, if_neg c4, if_neg c5, if_pos (by decide), if_pos (.inr (by omega))]; rfl

theorem fine_more : ∀ (a b : Nat) (l : List Int), l.length ≤ a → a ≤ b → fineL a l = fineL b l
  | a, b, l, h, hab => by
    induction a using Nat.strongRecOn generalizing b l with
    | ind a ih =>
      by_cases hl : l = []
      · subst hl
        cases a <;> cases b <;> rfl
      · have h1 := List.length_pos_iff.2 hl
        obtain ⟨a, rfl⟩ : ∃ e, a = e + 1 := ⟨a - 1, by omega⟩
        obtain ⟨b, rfl⟩ : ∃ e, b = e + 1 := ⟨b - 1, by omega⟩
        have hle := nxL_le hl
        rw [fineL_succ, fineL_succ, if_neg hl, if_neg hl]
        split
        · exact ih a (by omega) b _ (by rw [List.length_drop]; omega) (by omega)
        · rfl
theorem runes_more : ∀ (a b : Nat) (l : List Int), l.length ≤ a → a ≤ b → runesF a l = runesF b l
  | a, b, l, h, hab => by
    induction a using Nat.strongRecOn generalizing b l with
    | ind a ih =>
      by_cases hl : l = []
      · subst hl
        cases a <;> cases b <;> rfl
      · have h1 := List.length_pos_iff.2 hl
        obtain ⟨a, rfl⟩ : ∃ e, a = e + 1 := ⟨a - 1, by omega⟩
        obtain ⟨b, rfl⟩ : ∃ e, b = e + 1 := ⟨b - 1, by omega⟩
        have hle := nxL_le hl
        rw [runesF_succ, runesF_succ, if_neg hl, if_neg hl]
        congr 1
        exact ih a (by omega) b _ (by rw [List.length_drop]; omega) (by omega)
theorem ref_chars {l : List Int} (hb : ∀ x ∈ l, 0 ≤ x ∧ x ≤ 255) (hl : l.length ≤ 1000000) : ∀ (d i k : Nat) (xs : List Int), i + d = l.length → d ≤ k → xs.length ≤ i → fineL d (l.drop i) = true → whispererref01_Chars.l0 (k + 9) l xs (i : Int) = some (xs ++ runesF d (l.drop i)) := by
  intro d
  induction d using Nat.strongRecOn with
  | ind d ih =>
    intro i k xs hi hk hx hf
    rw [whispererref01_Chars.l0]
    by_cases c1 : d = 0
    · subst c1
      rw [if_neg (by omega)]
      show some xs = some (xs ++ [])
      rw [List.append_nil]
    · obtain ⟨d, rfl⟩ : ∃ e, d = e + 1 := ⟨d - 1, by omega⟩
      obtain ⟨k, rfl⟩ : ∃ e, k = e + 1 := ⟨k - 1, by omega⟩
      have hne : l.drop i ≠ [] := by
        intro h
        have := congrArg List.length h
        simp at this
        omega
      have hbd : ∀ x ∈ l.drop i, 0 ≤ x ∧ x ≤ 255 := fun x hx => hb x (List.mem_of_mem_drop hx)
      have hle := nxL_le hne
      rw [List.length_drop] at hle
      rw [fineL_succ, if_neg hne] at hf
      rw [if_pos (by omega), if_pos (by omega), if_pos (by omega), Int.toNat_natCast, show k + 1 + 8 = (k + 2) + 7 by omega, ref_next hbd, Option.bind_some, runesF_succ, if_neg hne]
      by_cases c2 : (nxL (l.drop i)).2.2 = 0 ∧ prn ((nxL (l.drop i)).1 : Int) = true
      · rw [if_pos c2] at hf
        rw [if_pos (by simp only; omega), if_pos (by omega), wr64 (by simp only; omega) (by simp only; omega)]
        simp only
        have hlen : ((l.drop i).drop (nxL (l.drop i)).2.1).length ≤ d + 1 - (nxL (l.drop i)).2.1 := by rw [List.length_drop, List.length_drop]; omega
        rw [← fine_more _ _ _ hlen (by omega)] at hf
        rw [← runes_more _ _ _ hlen (by omega)]
        rw [List.drop_drop] at hf ⊢
        rw [show (i : Int) + ((nxL (l.drop i)).2.1 : Int) = ((i + (nxL (l.drop i)).2.1 : Nat) : Int) by omega, show k + 2 + 7 = k + 9 by omega, ih (d + 1 - (nxL (l.drop i)).2.1) (by omega) _ k _ (by omega) (by omega) (by rw [List.length_append]; simp only [List.length_cons, List.length_nil]; omega) hf, List.append_assoc]
        rfl
      · rw [if_neg c2] at hf
        cases hf
end Go.Proofs.YtmdeehblmkpddaaDoor.Hand

namespace Go.Proofs.YtmdeehblmkpddaaDoor.Hand
open Go.RowKit Go.Proofs.YtmdeehblmkpddaaDoor.PChars Go.Proofs.YtmdeehblmkpddaaDoorW.PrintWords Go.Proofs.YtmdeehblmkpddaaDoorW.PrintLast
set_option linter.unusedVariables false
set_option linter.unusedSimpArgs false
theorem TabS.v {w : World} (h : TabS w) : TabV w := ⟨h.u, h.n.pow⟩
theorem putV_calls (c : Int) (w : World) : Calls Tryd.prog 17 #[.int .i64 c] w fun e w' => ∃ A cap, e = .returned (.tuple #[.slice A (if isChar c = true then enc c else []).length cap, .int .i64 (if isChar c = true then 0 else 3)]) ∧ Kd.C (Kd.int .u8) w' A (if isChar c = true then enc c else []).length (if isChar c = true then enc c else []) ∧ (if isChar c = true then enc c else []).length ≤ cap ∧ Below w.heap.size w w' := by
  refine (PPrintable.utf_Put.calls 4 c (if isChar c = true then enc c else []) (if isChar c = true then 0 else 3) w (by rw [put_eq c 3]; by_cases h : isChar c = true <;> simp [h])).mono ?_
  rintro e w' ⟨v, rfl, hR, hb⟩
  obtain ⟨A, cap, rfl, hc, hC⟩ := Kd.R_reads hR
  exact ⟨A, cap, rfl, hC, hc, hb⟩
/-- A screen in a law's walk, where it is not asked which blocks are its own. -/
def OnS (w wr : World) (g : Nat) (s : SM) (m : Nat) : Prop := ∃ F, On w wr g s m F
theorem OnS.below {w wr W : World} {g : Nat} {s : SM} {m : Nat} (h : OnS w wr g s m) (hb : Below wr.heap.size wr W) : OnS w W g s m := by
  obtain ⟨F, h⟩ := h
  exact ⟨F, h.below hb⟩
theorem OnS.b {w wr : World} {g : Nat} {s : SM} {m : Nat} (h : OnS w wr g s m) : Below w.heap.size w wr := by
  obtain ⟨F, h⟩ := h
  exact h.G.b
theorem OnS.up {w wr : World} {g : Nat} {s : SM} {m m' : Nat} (h : OnS w wr g s m) (hm : m ≤ m') : OnS w wr g s m' := by
  obtain ⟨F, h⟩ := h
  obtain ⟨q, hq1, hq2, hq3⟩ := h.f
  exact ⟨F, h.x, ⟨q, hq1, by omega, hq3⟩, h.G⟩
theorem OnS.feed {w wr : World} {g : Nat} {s s' : SM} {m : Nat} (h : OnS w wr g s m) (HT : TabS w) (A : Option Addr) (cap : Nat) (l : List Int) (hr : Kd.C (Kd.int .u8) wr A l.length l) (hc : l.length ≤ cap) (hb : ∀ x ∈ l, 0 ≤ x ∧ x ≤ 255) (hn : m + l.length ≤ 20000) (hs : s.feed l = s') :
    Calls Tryd.prog 12 #[.pointer (some ⟨g, 0, none⟩), .slice A l.length cap] wr fun e w' => e = .returned (.int .i64 0) ∧ OnS w w' g s' (m + l.length) := by
  obtain ⟨F, h⟩ := h
  subst hs
  refine (feed_on h HT.n HT.u A cap l hr hc hb hn).mono ?_
  rintro e w' ⟨rfl, hs, _⟩
  exact ⟨rfl, _, hs⟩
theorem encV_byte (c : Int) (hp : prn c = true) : ∀ z ∈ enc c, 0 ≤ z ∧ z ≤ 255 := by
  have := (prn_iff c).1 hp
  intro z hz
  unfold enc at hz
  split at hz
  · simp at hz; omega
  · split at hz
    · simp at hz; omega
    · split at hz
      · simp at hz; omega
      · simp at hz; omega
theorem encV_len (c : Int) : (enc c).length ≤ 4 := by
  unfold enc
  repeat' split
  all_goals simp
def shownV (l : List Int) : List Int := l.filter prn
theorem shownV_snoc (l : List Int) (i : Nat) (h : i < l.length) : shownV (l.take (i + 1)) = shownV (l.take i) ++ (if prn l[i] = true then [l[i]] else []) := by
  unfold shownV
  rw [List.take_succ_eq_append_getElem h, List.filter_append]
  congr 1
  by_cases hp : prn l[i] = true
  · simp [hp]
  · simp [hp]
def starsB (n : Nat) : ByteArray := ⟨(List.replicate n (42 : UInt8)).toArray⟩
theorem starsB_size (n : Nat) : (starsB n).size = n := by
  unfold starsB
  show (List.replicate n (42 : UInt8)).toArray.size = n
  simp
theorem starsB_succ (s : ByteArray) (n : Nat) : s ++ starsB (n + 1) = s ++ starsB n ++ ⟨#[42]⟩ := by
  apply ByteArray.ext
  unfold starsB
  simp [List.replicate_succ', ← Array.toList_inj]
theorem starsB_zero (s : ByteArray) : s ++ starsB 0 = s := by
  apply ByteArray.ext
  unfold starsB
  simp
def backFine (m : Nat) : Bool := decide ((backL (m : Int)).length ≤ 7) && (backL (m : Int)).all fun x => decide (0 ≤ x) && decide (x ≤ 255)
theorem back_fine : ∀ m, m < 1025 → backFine m = true := by decide +kernel
theorem strNums_back (s : ByteArray) (n : Nat) : strOfNums (sb s ++ List.replicate n 42) = s ++ starsB n := by
  apply ByteArray.ext
  unfold strOfNums sb starsB
  simp [← Array.toList_inj]
  rw [List.map_congr_left (g := id) (fun b _ => by simp), List.map_id]
theorem views_plain {s : ByteArray} {mode room : Int} {n p : Nat} {r1 : List Int} {r2 : Int} (hf : view_Render.f 0 s mode room n p = some (r1, r2)) (h : r2 = 0) (hp : p ≤ n) (hn : n ≤ 1024) :
    ∃ (cs : List Int) (st pl : Nat), starsI mode n = st ∧ placeI mode n p = pl ∧ pl ≤ st ∧ st ≤ 1024 ∧ s.size ≤ 256 ∧ r1.length ≤ 2000 ∧ (∀ x ∈ r1, 0 ≤ x ∧ x ≤ 255) ∧
      whispererref01_Chars.f 300 (sb s) = some cs ∧ cs.length ≤ 256 ∧ (∀ o, (ty [] o).feed r1 = tyb (cs ++ List.replicate st 42) (st - pl)) ∧ runesBytes (cs ++ List.replicate st 42) = s ++ starsB st := by
  unfold view_Render.f at hf
  by_cases hs : s.size ≤ 9223372036854775807
  · rw [if_pos hs] at hf
    have hf := Option.some.inj hf
    by_cases hc : checkI s mode room = 0
    · rw [if_neg (fun x => x hc)] at hf
      by_cases hr : rightB mode n p = true
      · rw [if_pos hr] at hf
        obtain ⟨rfl, rfl⟩ := Prod.mk.inj hf
        have hm := rightB_count hr
        have hr0 : rightB mode n 0 = true := by
          unfold rightB
          simp
          omega
        have hst : 0 ≤ starsI mode n ∧ starsI mode n ≤ 1024 ∧ 0 ≤ placeI mode n p ∧ placeI mode n p ≤ starsI mode n := by
          unfold starsI placeI
          rw [if_pos hr, if_pos hr0]
          repeat' split
          all_goals omega
        have h256 := check_size hc
        have hfine : fineL s.size (sb s) = true := by
          unfold checkI at hc
          split at hc
          · assumption
          · cases hc
        have hlen := sb_length s
        have hby := sb_byte s
        obtain ⟨hfl, hpr⟩ := fine_runes s.size (sb s) (by omega) hby hfine
        have hrl : (runesF s.size (sb s)).length ≤ 256 := by
          have h1 : ∀ cs : List Int, cs.length ≤ (cs.flatMap enc).length := by
            intro cs
            induction cs with
            | nil => exact Nat.le_refl _
            | cons c cs ih =>
              rw [List.flatMap_cons, List.length_append, List.length_cons]
              have : 1 ≤ (enc c).length := by
                unfold enc
                repeat' split
                all_goals simp
              omega
          have := h1 (runesF s.size (sb s))
          rw [hfl] at this
          omega
        obtain ⟨st, hst1⟩ : ∃ st : Nat, starsI mode n = st := ⟨(starsI mode n).toNat, by omega⟩
        obtain ⟨pl, hpl1⟩ : ∃ pl : Nat, placeI mode n p = pl := ⟨(placeI mode n p).toNat, by omega⟩
        have hsub : starsI mode n - placeI mode n p = ((st - pl : Nat) : Int) := by omega
        have hbk := back_fine (st - pl) (by omega)
        unfold backFine at hbk
        rw [Bool.and_eq_true] at hbk
        have hL : renderL s mode n p = [13] ++ ((runesF s.size (sb s) ++ List.replicate st 42).flatMap enc ++ ([27, 91, 75] ++ backL ((st - pl : Nat) : Int))) := by
          unfold renderL
          rw [hsub, hst1, Int.toNat_natCast, List.flatMap_append, hfl, stars_enc]
          simp only [List.append_assoc]
          rfl
        refine ⟨runesF s.size (sb s), st, pl, hst1, hpl1, by omega, by omega, h256, ?_, ?_, ?_, hrl, fun o => ?_, ?_⟩
        · rw [hL, List.flatMap_append, hfl, stars_enc]
          have := of_decide_eq_true hbk.1
          simp only [List.length_append, List.length_cons, List.length_nil, List.length_replicate]
          omega
        · rw [hL, List.flatMap_append, hfl, stars_enc]
          intro x hx
          simp only [List.mem_append, List.mem_cons, List.mem_replicate, List.not_mem_nil, or_false] at hx
          rcases hx with rfl | (hx | ⟨_, rfl⟩) | (rfl | rfl | rfl) | hx
          · decide
          · exact hby x hx
          · decide
          · decide
          · decide
          · decide
          · have := List.all_eq_true.1 hbk.2 x hx
            simpa using this
        · have := ref_chars hby (by omega) s.size 0 291 [] (by omega) (by omega) (Nat.zero_le _) (by simpa using hfine)
          show whispererref01_Chars.l0 300 (sb s) [] 0 = _
          simpa using this
        · rw [hL, ← feed_app, ← feed_app, ← feed_app, ty_back, ty_many o _ [] (by
            intro c hc
            rcases List.mem_append.1 hc with hc | hc
            · exact hpr c hc
            · rw [(List.mem_replicate.1 hc).2]; exact prn_star), List.nil_append, ty_cut, ty_back_l _ _ (by omega)]
        · rw [runes_textV _ (by
            intro c hc
            rcases List.mem_append.1 hc with hc | hc
            · exact prnS_char (hpr c hc)
            · rw [(List.mem_replicate.1 hc).2]; exact prnS_char prn_star), List.flatMap_append, hfl, stars_enc, strNums_back]
      · rw [if_neg hr] at hf
        obtain ⟨_, rfl⟩ := Prod.mk.inj hf
        cases h
    · rw [if_pos hc] at hf
      obtain ⟨_, rfl⟩ := Prod.mk.inj hf
      exact absurd h hc
  · rw [if_neg hs] at hf
    cases hf
theorem tybPlace {w wr : World} {g m : Nat} {cs : List Int} {st pl : Nat} (h : OnS w wr g (tyb (cs ++ List.replicate st 42) (st - pl)) m) (hp : pl ≤ st) : Calls Tryd.prog 13 #[.pointer (some ⟨g, 0, none⟩)] wr fun e w' => e = .returned (.tuple #[.int .i64 0, .int .i64 ((cs.length : Int) + (pl : Int))]) ∧ Below wr.heap.size wr w' := by
  obtain ⟨F, h⟩ := h
  have := place_ok wr g _ F h.x
  have e : ((tyb (cs ++ List.replicate st 42) (st - pl)).col : Int) = (cs.length : Int) + (pl : Int) := by
    show (((cs ++ List.replicate st 42).length - (st - pl) : Nat) : Int) = _
    rw [List.length_append, List.length_replicate]
    omega
  rw [e] at this
  exact this
theorem tybOdd {w wr : World} {g m : Nat} {y : List Int} {d : Nat} (h : OnS w wr g (tyb y d) m) : Calls Tryd.prog 15 #[.pointer (some ⟨g, 0, none⟩)] wr fun e w' => e = .returned (.int .i64 0) ∧ Below wr.heap.size wr w' := by
  obtain ⟨F, h⟩ := h
  exact odd_ok wr g _ F h.x
theorem tybRows {w wr : World} {g m : Nat} {y : List Int} {d : Nat} (h : OnS w wr g (tyb y d) m) : Calls Tryd.prog 20 #[.pointer (some ⟨g, 0, none⟩)] wr fun e w' => e = .returned (.int .i64 1) ∧ Below wr.heap.size wr w' := by
  obtain ⟨F, h⟩ := h
  exact rows_ok wr g _ F h.x
theorem tybRow {w wr : World} {g m : Nat} {y : List Int} {d : Nat} {X : ByteArray} (h : OnS w wr g (tyb y d) m) (hm : m ≤ 100000) (hX : runesBytes y = X) : Calls Tryd.prog 14 #[.pointer (some ⟨g, 0, none⟩), .int .i64 0] wr fun e w' => e = .returned (.string X) ∧ Below wr.heap.size wr w' := by
  obtain ⟨F, h⟩ := h
  subst hX
  exact rowS_ok wr g _ F m h.x h.f.fine (by omega) 0 (Nat.zero_lt_succ _)
theorem chars_bytes {W W' : World} {e : TypeId} {s : ByteArray} {cs : List Int} {c : Nat} (hcs : whispererref01_Chars.f 300 (sb s) = some cs) (hs : s.size ≤ 256) (hc : s.size ≤ c) (hb : Below (Lib.bytesWorld W e s).heap.size (Lib.bytesWorld W e s) W') :
    Calls Tryd.prog 32 #[.slice (some ⟨W.heap.size, 0, none⟩) s.size c] W' fun e w' => ∃ A c', e = .returned (.slice A cs.length c') ∧ Below W'.heap.size W' w' := by
  have hC := C_later (bytes_C W e s (by omega)) hb
  have := whispererref01_Chars.calls 300 (some ⟨W.heap.size, 0, none⟩) c (sb s) cs W' hC (by rw [sb_length]; exact hc) hcs
  rw [sb_length] at this
  refine this.mono ?_
  rintro e w' ⟨v, rfl, hR, hb⟩
  obtain ⟨A, cap, rfl, _, _⟩ := Kd.R_reads hR
  exact ⟨A, cap, rfl, hb⟩
theorem placeV_calls {m : Int} {n p pl : Nat} (h : placeI m n p = pl) (W : World) : Calls Tryd.prog 33 #[.int .i64 m, .int .i64 n, .int .i64 p] W fun e w' => e = .returned (.int .i64 (pl : Int)) ∧ Below W.heap.size W w' := by
  have := viewPlace_ok m n p W
  rw [h] at this
  exact this
theorem heldS {A B : Prop} {w W : World} {g m : Nat} {s : SM} (h : A ∧ B ∧ OnS w W g s m) : OnS w W g s m := h.2.2
theorem held0 {W : World} {p : Addr} {v : Value} {B : Prop} (h : W.cell? p = some v ∧ B) : W.cell? p = some v := h.1
theorem held1 {W : World} {p : Addr} {v : Value} {A B : Prop} (h : A ∧ W.cell? p = some v ∧ B) : W.cell? p = some v := h.2.1
theorem keepC2 {W W' : World} {p : Addr} {v : Value} (hb : Below W.heap.size W W') (h : W.cell? p = some v) : W'.cell? p = some v := cell_stays h hb
theorem keepS2 {w W W' : World} {g m : Nat} {s : SM} (hb : Below W.heap.size W W') (h : OnS w W g s m) : OnS w W' g s m := h.below hb
set_option maxHeartbeats 4000000 in
set_option maxRecDepth 100000 in
theorem ScreenViews_walk (a0_0 : ByteArray) (a0_1 a0_2 a1_0 a1_1 : Int) (a2 : Option Addr) (len2 cap2 : Nat) (z2 : List Int) (w : World) (HT : TabS w)
    (w0_0 : a0_0.size ≤ maxLen) (w0_1 : (Lit.int .i64 a0_1).wf = true) (w0_2 : (Lit.int .i64 a0_2).wf = true) (w1_0 : (Lit.int .u16 a1_0).wf = true) (w1_1 : (Lit.int .u16 a1_1).wf = true)
    (w2 : (a2 = none ∧ len2 = 0 ∧ cap2 = 0 ∧ z2 = []) ∨ ∃ x, a2 = some x ∧ len2 ≤ cap2 ∧ cap2 ≤ maxLen ∧ z2.length = cap2 ∧ (∀ i, i < z2.length → w.cell? (x.add i) = some (.int .i64 (z2.getD i 0))) ∧ ∀ n ∈ z2, (Lit.int .i64 n).wf = true)
    (y2 : len2 * 8 ≤ 140737488351232) :
    Calls Tryd.prog 9 #[.agg #[.string a0_0, .int .i64 a0_1, .int .i64 a0_2], .agg #[.int .u16 a1_0, .int .u16 a1_1], .slice a2 len2 cap2] w fun e w' => e = .returned (.bool true) ∧ Below w.heap.size w w' := by
  obtain ⟨l2, rfl, hC2, hcap2, hcm2, hwf2, hnn2⟩ := row_in w2
  have hDA := Aside0.mk hC2
  clear w2 z2 hC2 hwf2 hnn2
  have b1 : 0 ≤ a1_0 ∧ a1_0 ≤ 65535 := by
    have : (decide (IntKind.u16.min ≤ a1_0) && decide (a1_0 ≤ IntKind.u16.max)) = true := w1_0
    rw [show IntKind.u16.min = 0 by decide, show IntKind.u16.max = 65535 by decide] at this
    simpa using this
  have b2 : 0 ≤ a1_1 ∧ a1_1 ≤ 65535 := by
    have : (decide (IntKind.u16.min ≤ a1_1) && decide (a1_1 ≤ IntKind.u16.max)) = true := w1_1
    rw [show IntKind.u16.min = 0 by decide, show IntKind.u16.max = 65535 by decide] at this
    simpa using this
  obtain ⟨n, hn⟩ : ∃ n : Nat, Int.tmod a1_0 1025 = n := ⟨(a1_0 % 1025).toNat, by rw [Int.tmod_eq_emod_of_nonneg b1.1]; omega⟩
  have hn2 : n ≤ 1024 := by rw [Int.tmod_eq_emod_of_nonneg b1.1] at hn; omega
  obtain ⟨p, hp⟩ : ∃ p : Nat, Int.tmod a1_1 ((n : Int) + 1) = p := ⟨(a1_1 % ((n : Int) + 1)).toNat, by
    rw [Int.tmod_eq_emod_of_nonneg b2.1]
    have := Int.emod_nonneg a1_1 (show (n : Int) + 1 ≠ 0 by omega)
    omega⟩
  have hp2 : p ≤ n := by
    rw [Int.tmod_eq_emod_of_nonneg b2.1] at hp
    have := Int.emod_lt_of_pos a1_1 (show 0 < (n : Int) + 1 by omega)
    omega
  have wa : IntKind.i64.wrap a1_0 = a1_0 := by unfold IntKind.wrap; simp [IntKind.bits]; omega
  have wb : IntKind.i64.wrap a1_1 = a1_1 := by unfold IntKind.wrap; simp [IntKind.bits]; omega
  have wn : IntKind.i64.wrap ((n : Int) + 1) = (n : Int) + 1 := by unfold IntKind.wrap; simp [IntKind.bits]; omega
  have nz : ((n : Int) + 1 == 0) = false := by simp; omega
  have z : Below w.heap.size w ((w.alloc (.cells #[.string a0_0, .int .i64 a0_1, .int .i64 a0_2] 53)).alloc (.cells #[.int .u16 a1_0, .int .u16 a1_1] 55)) :=
    ((Below.refl w.heap.size w).alloc (Nat.le_refl _) _).alloc (by simp) _
  have hblk := (heap_alloc_old (w.alloc (.cells #[.string a0_0, .int .i64 a0_1, .int .i64 a0_2] 53)) (.cells #[.int .u16 a1_0, .int .u16 a1_1] 55) (by simp)).trans (heap_alloc_new w (.cells #[.string a0_0, .int .i64 a0_1, .int .i64 a0_2] 53))
  obtain ⟨r1, r2, hf⟩ : ∃ r1 r2, view_Render.f 0 a0_0 a0_1 a0_2 (n : Int) (p : Int) = some (r1, r2) := by
    unfold view_Render.f
    rw [if_pos (by unfold maxLen at w0_0; omega)]
    exact ⟨_, _, rfl⟩
  have hfa := Aside0.mk hf
  clear w0_0 w0_1 w0_2 w1_0 w1_1
  go_enter Tryd.func9, Tryd.ntmps9
  go_wp2_with (fail)
  refine (view_Render.calls 0 a0_0 a0_1 a0_2 (n : Int) (p : Int) r1 r2 _ (HT.below z).v hfa.out).mono ?_
  rintro e w1 ⟨v0, rfl, hR, hb1⟩
  obtain ⟨A1, c1, rfl, hc1, hC1⟩ := Kd.R_reads hR
  have k0 := cell_stays (blk_cell hblk 0) hb1
  have k1 := cell_stays (blk_cell hblk 1) hb1
  have Z1 := Aside0.mk (z.trans (hb1.mono z.size))
  have HR1 := Aside0.mk hC1
  clear hb1 hblk z hR hC1 hf
  go_wp2_with (fail)
  refine (new_ok w1).mono ?_
  rintro e w2 ⟨g, rfl, hs2, hb2⟩
  have S2 := Aside0.mk (show OnS w1 w2 g (ty [] []) 1 from ⟨_, On.new (Below.refl _ w1) hs2 hb2⟩)
  have HT1 := Aside0.mk (HT.below Z1.out)
  have hA2 := HT1.out.below hb2
  have ha2 := alive_ok w2 hA2.n hA2.u
  clear hb2 hs2 hA2
  by_cases hr2 : r2 = 0
  · obtain ⟨cs, st, pl, v1, v2, v3, v4, v5, v6, v7, v8, v9, v10, v11⟩ := views_plain hfa.out hr2 hp2 hn2
    subst hr2
    have k0' := Aside0.mk (show w1.cell? ⟨w.heap.size, 0, none⟩ = some (.string a0_0) from k0)
    have k1' := Aside0.mk (show w1.cell? ⟨w.heap.size, 1, none⟩ = some (.int .i64 a0_1) from k1)
    have V := Aside0.mk (And.intro v7 (And.intro v8 (And.intro v9 (And.intro v10 v11))))
    clear k0 k1 v7 v8 v9 v10 v11 b1 b2 hn hp wa wb wn nz hfa
    go_wp2_with (fail)
    refine ha2.mono ?_
    rintro e w3 ⟨rfl, hb3⟩
    have S3 := Aside0.mk (S2.out.below hb3)
    clear hb3 S2 ha2
    by_cases hbig : 300 < l2.length
    · have hbigI : (300 : Int) < (l2.length : Int) := by omega
      have hA3 := HT1.out.below S3.out.b
      have ha3 := alive_ok w3 hA3.n hA3.u
      go_wp2_with (fail)
      refine ha3.mono ?_
      rintro e w4 ⟨rfl, hb4⟩
      have Z4 := Aside0.mk (Z1.out.trans ((S3.out.below hb4).b.mono Z1.out.size))
      clear hb4 hA3 ha3
      go_wp2_with (fail)
      go_ret
      exact ⟨rfl, Z4.out⟩
    · have hbigI : (l2.length : Int) ≤ 300 := by omega
      have S0 := Aside0.mk (show OnS w1 w3 g (ty [] (shownV (l2.take 0))) (1 + 4 * 0) from S3.out)
      clear S3
      go_wp2_with (fail)
      go_loopw [55] (fun v55 wr => ∃ i : Nat, v55 = .int .i64 i ∧ Aside0 (i ≤ l2.length) ∧ Aside0 (OnS w1 wr g (ty [] (shownV (l2.take i))) (1 + 4 * i))) (fun v55 _ => l2.length - (intOf v55).toNat)
      case atStart => exact ⟨0, rfl, ⟨Nat.zero_le _⟩, S0⟩
      case round =>
        clear S0
        obtain ⟨i, rfl, hi, hL⟩ := hrel
        have hi0' := hi.out
        by_cases hlt : i < l2.length
        · obtain ⟨ad, rfl, hcl⟩ := (Kd.reads_of_C (d := (0 : Int)) (C_later hDA.out (Z1.out.trans (hL.out.b.mono Z1.out.size)))).2.2 (by omega)
          have hcl2 := hcl i hlt
          have hsn := Aside0.mk (shownV_snoc l2 i hlt)
          have hgd : l2.getD i 0 = l2[i] := by rw [List.getD_eq_getElem?_getD, List.getElem?_eq_getElem hlt]; rfl
          rw [hgd] at hcl2
          have hiI : (i : Int) < (l2.length : Int) := by omega
          clear hcl hgd
          generalize l2[i] = c at *
          generalize ho : shownV (l2.take i) = o at *
          clear ho
          go_wp2_with (fail)
          refine (putV_calls c _).mono ?_
          rintro e w5 ⟨A5, c5, rfl, hC5, hc5, hb5⟩
          have hL5 := Aside0.mk (hL.out.below hb5)
          have hC5 := Aside0.mk hC5
          clear hb5 hL
          by_cases hch : isChar c = true
          · rw [if_pos hch] at hC5 hc5
            simp only [if_pos hch]
            go_wp2_with (fail)
            refine (prnS_calls c _).mono ?_
            rintro e w6 ⟨rfl, hb6⟩
            have hL6 := Aside0.mk (hL5.out.below hb6)
            have hC6 := Aside0.mk (C_later hC5.out hb6)
            clear hb6 hL5 hC5
            by_cases hpc : prn c = true
            · rw [hpc]
              go_wp2_with (fail)
              refine (hL6.out.feed HT1.out A5 c5 (enc c) hC6.out hc5 (encV_byte c hpc) (by have := encV_len c; omega) (ty_show [] o c hpc)).mono ?_
              rintro e w7 ⟨rfl, hL7⟩
              have hL7 := Aside0.mk hL7
              clear hL6 hC6
              go_wp2_with (fail)
              refine ⟨⟨i + 1, rfl, ⟨by omega⟩, ⟨?_⟩⟩, ?_⟩
              · rw [hsn.out, if_pos hpc]
                exact hL7.out.up (by have := encV_len c; omega)
              · simp [intOf]
                omega
            · have hp' : prn c = false := Bool.eq_false_iff.mpr hpc
              rw [hp']
              go_wp2_with (fail)
              refine ⟨⟨i + 1, rfl, ⟨by omega⟩, ⟨?_⟩⟩, ?_⟩
              · rw [hsn.out, if_neg hpc, List.append_nil]
                exact hL6.out.up (by omega)
              · simp [intOf]
                omega
          · have hpc : ¬ prn c = true := fun hpc => hch (prnS_char hpc)
            simp only [if_neg hch]
            go_wp2_with (fail)
            refine ⟨⟨i + 1, rfl, ⟨by omega⟩, ⟨?_⟩⟩, ?_⟩
            · rw [hsn.out, if_neg hpc, List.append_nil]
              exact hL5.out.up (by omega)
            · simp [intOf]
              omega
        · have hiI : (l2.length : Int) ≤ (i : Int) := by omega
          have hE : i = l2.length := by omega
          subst hE
          go_wp2_with (fail)
          refine (hL.out.feed HT1.out A1 c1 r1 (C_later HR1.out hL.out.b) hc1 V.out.1 (by omega) (V.out.2.2.2.1 _)).mono ?_
          rintro e w7 ⟨rfl, hL7⟩
          have S7 := Aside0.mk (hL7.up (show _ ≤ 10000 by omega))
          have k0 := cell_stays k0'.out S7.out.b
          have k1 := cell_stays k1'.out S7.out.b
          clear hL hL7
          go_wp2_with (fail)
          have hst := stars_ok a0_1 (n : Int) w7
          rw [v1] at hst
          refine hst.mono ?_
          rintro e w8 ⟨rfl, hb8⟩
          have S8 := Aside0.mk (S7.out.below hb8)
          clear hb8 S7 hst k0 k1
          go_wp2_with (fail)
          have W0 := Aside0.mk (starsB_zero a0_0)
          go_loopw [16, 83] (fun v16 v83 wr => ∃ i : Nat, v16 = .string (a0_0 ++ starsB i) ∧ v83 = .int .i64 i ∧ Aside0 (i ≤ st) ∧ Aside0 (OnS w1 wr g (tyb (cs ++ List.replicate st 42) (st - pl)) 10000)) (fun _ v83 _ => st - (intOf v83).toNat)
          case atStart => exact ⟨0, by rw [W0.out], rfl, ⟨Nat.zero_le _⟩, S8⟩
          case round =>
            clear S8
            obtain ⟨i, rfl, rfl, hi, hL⟩ := hrel
            have hi0' := hi.out
            by_cases hlt : i < st
            · have hltI : (i : Int) < (st : Int) := by omega
              have hsz : (a0_0 ++ starsB i).size ≤ 1300 := by
                have := starsB_size i
                rw [ByteArray.size_append]
                omega
              have hs := Aside0.mk (starsB_succ a0_0 i)
              generalize a0_0 ++ starsB i = X at *
              go_wp2_with (fail)
              refine ⟨⟨i + 1, by rw [hs.out], rfl, ⟨by omega⟩, hL⟩, ?_⟩
              simp [intOf]
              omega
            · have hltI : (st : Int) ≤ (i : Int) := by omega
              have hE : i = st := by omega
              subst hE
              have hX := Aside0.mk V.out.2.2.2.2
              generalize a0_0 ++ starsB i = X at *
              have SP := tybPlace hL.out v3
              go_wp2_with (fail)
              refine SP.mono ?_
              rintro e w9 ⟨rfl, hb9⟩
              have S9 := hL.out.below hb9
              have k0 := cell_stays k0'.out S9.b
              have k1 := cell_stays k1'.out S9.b
              have hconv := fun (w : World) => Lib.run_convert_string_bytes (P := Tryd.prog) w 9 22 5 a0_0 Tryd.underlying9 Tryd.underlying22 Tryd.underlying5
              clear hb9 hL SP
              have hw : IntKind.i64.wrap ((cs.length : Int) + (pl : Int)) = (cs.length : Int) + (pl : Int) := by
                have := V.out.2.2.1
                unfold IntKind.wrap
                simp [IntKind.bits]
                omega
              go_wp2_with (fail)
              have hb0 : ∀ W : World, W.cell? ⟨w.heap.size, 0, none⟩ = some (.string a0_0) → (Lib.bytesWorld W 5 a0_0).cell? ⟨w.heap.size, 0, none⟩ = some (.string a0_0) := fun W h => keepC2 (bytes_below _ _ _) h
              have hb1 : ∀ W : World, W.cell? ⟨w.heap.size, 1, none⟩ = some (.int .i64 a0_1) → (Lib.bytesWorld W 5 a0_0).cell? ⟨w.heap.size, 1, none⟩ = some (.int .i64 a0_1) := fun W h => keepC2 (bytes_below _ _ _) h
              refine wp_region_noPanic ?_
              refine wp_region_held_drew (S := (fun w' => w'.cell? ⟨w.heap.size, 0, none⟩ = some (.string a0_0) ∧ w'.cell? ⟨w.heap.size, 1, none⟩ = some (.int .i64 a0_1) ∧ OnS w1 w' g (tyb (cs ++ List.replicate i 42) (i - pl)) 10000)) (by kernel_rfl) (by (try dsimp only); refine ⟨?_, ?_, ?_⟩ <;> first | assumption | exact held0 (by assumption) | exact held1 (by assumption) | exact heldS (by assumption) | exact k0 | exact k1 | exact keepS2 (below_drew1 (Below.refl _ _)) S9 | exact keepS2 (by assumption) (heldS (by assumption)) | exact keepC2 (by assumption) (held0 (by assumption)) | exact keepC2 (by assumption) (held1 (by assumption)) | exact keepC2 (bytes_below _ _ _) (held0 (by assumption)) | exact keepC2 (bytes_below _ _ _) (held1 (by assumption)) | exact keepS2 (bytes_below _ _ _) (heldS (by assumption))) (fun hHeld => ?_)
              refine wpAnyH_take (i := 0) (oi := { dst := some 93, op := Op.move (Operand.tmp 11), type := 23, pos := "law.go:126", after := #[], guard := none }) (v := ?_) rfl (by kernel_rfl) (by kernel_rfl) (by kernel_rfl) (fun _ _ _ h => h) (Or.inl ⟨by rfl, ?_⟩) hHeld ?_
              rotate_left 1
              · (intro wq hSw; (try dsimp only at hSw); go_simp; try with_reducible rfl)
              try simp only [Act.put, List.setIfInBounds_toArray, List.set_cons_zero, List.set_cons_succ]
              refine wpAnyH_take (i := 1) (oi := { dst := some 94, op := Op.move (Operand.tmp 17), type := 3, pos := "law.go:126", after := #[], guard := none }) (v := ?_) rfl (by kernel_rfl) (by kernel_rfl) (by kernel_rfl) (fun _ _ _ h => h) (Or.inl ⟨by rfl, ?_⟩) hHeld ?_
              rotate_left 1
              · (intro wq hSw; (try dsimp only at hSw); go_simp; try with_reducible rfl)
              try simp only [Act.put, List.setIfInBounds_toArray, List.set_cons_zero, List.set_cons_succ]
              refine wpAnyH_take (i := 3) (oi := { dst := some 96, op := Op.move (Operand.tmp 16), type := 9, pos := "law.go:126", after := #[], guard := none }) (v := ?_) rfl (by kernel_rfl) (by kernel_rfl) (by kernel_rfl) (fun _ _ _ h => h) (Or.inl ⟨by rfl, ?_⟩) hHeld ?_
              rotate_left 1
              · (intro wq hSw; (try dsimp only at hSw); go_simp; try with_reducible rfl)
              try simp only [Act.put, List.setIfInBounds_toArray, List.set_cons_zero, List.set_cons_succ]
              refine wpAnyH_ready (rs := [2]) (by kernel_rfl) (by simp) ?_
              refine AllReadyH.cons (o := { dst := some 95, op := Op.call { callee := Callee.value (Operand.func 14), args := #[Operand.tmp 93, Operand.tmp 94], argTypes := #[23, 3] }, type := 9, pos := "law.go:126", after := #[{ on := 0, ground := Ground.data }, { on := 1, ground := Ground.data }], guard := none }) rfl (fun K hK => ?_) ?_
              rotate_left 1
              · exact AllReadyH.nil
              go_simp
              (first | (go_at_call 14; refine (tybRow (heldS (by assumption)) (by decide) hX.out).mono ?_; rintro e w' ⟨rfl, hb⟩) | (go_at_call 15; refine (tybOdd (heldS (by assumption))).mono ?_; rintro e w' ⟨rfl, hb⟩) | (go_at_call 20; refine (tybRows (heldS (by assumption))).mono ?_; rintro e w' ⟨rfl, hb⟩) | (go_at_call 33; refine (placeV_calls v2 _).mono ?_; rintro e w' ⟨rfl, hb⟩) | (go_at_call 32; refine (chars_bytes V.out.2.1 v5 (grownCap_ge _ _ _ _) (Below.refl _ _)).mono ?_; rintro e w' ⟨A, c', rfl, hb⟩))
              try go_wp2_with (fail)
              refine hK.out _ _ (by (try dsimp only); refine ⟨?_, ?_, ?_⟩ <;> first | assumption | exact held0 (by assumption) | exact held1 (by assumption) | exact heldS (by assumption) | exact k0 | exact k1 | exact keepS2 (below_drew1 (Below.refl _ _)) S9 | exact keepS2 (by assumption) (heldS (by assumption)) | exact keepC2 (by assumption) (held0 (by assumption)) | exact keepC2 (by assumption) (held1 (by assumption)) | exact keepC2 (bytes_below _ _ _) (held0 (by assumption)) | exact keepC2 (bytes_below _ _ _) (held1 (by assumption)) | exact keepS2 (bytes_below _ _ _) (heldS (by assumption))) (fun hHeld => ?_)
              clear hK K
              try simp only [Act.put, List.setIfInBounds_toArray, List.set_cons_zero, List.set_cons_succ]
              refine wpAnyH_take (i := 4) (oi := { dst := some 97, op := Op.binOp BinOp.eql 9 (Operand.tmp 95) (Operand.tmp 96) 9, type := 4, pos := "law.go:126", after := #[{ on := 2, ground := Ground.data }, { on := 3, ground := Ground.data }], guard := none }) (v := ?_) rfl (by kernel_rfl) (by kernel_rfl) (by kernel_rfl) (fun _ _ _ h => h) (Or.inl ⟨by rfl, ?_⟩) hHeld ?_
              rotate_left 1
              · (intro wq hSw; (try dsimp only at hSw); go_simp; try with_reducible rfl)
              try simp only [Act.put, List.setIfInBounds_toArray, List.set_cons_zero, List.set_cons_succ]
              refine wpAnyH_take (i := 5) (oi := { dst := some 98, op := Op.move (Operand.tmp 97), type := 4, pos := "law.go:126", after := #[{ on := 4, ground := Ground.data }, { on := 2, ground := Ground.chain }], guard := none }) (v := ?_) rfl (by kernel_rfl) (by kernel_rfl) (by kernel_rfl) (fun _ _ _ h => h) (Or.inl ⟨by rfl, ?_⟩) hHeld ?_
              rotate_left 1
              · (intro wq hSw; (try dsimp only at hSw); go_simp; try with_reducible rfl)
              try simp only [Act.put, List.setIfInBounds_toArray, List.set_cons_zero, List.set_cons_succ]
              refine wpAnyH_take (i := 6) (oi := { dst := some 99, op := Op.move (Operand.tmp 11), type := 23, pos := "law.go:126", after := #[{ on := 5, ground := Ground.guard }], guard := some (5, true) }) (v := ?_) rfl (by kernel_rfl) (by kernel_rfl) (by kernel_rfl) (fun _ _ _ h => h) (Or.inl ⟨by rfl, ?_⟩) hHeld ?_
              rotate_left 1
              · (intro wq hSw; (try dsimp only at hSw); go_simp; try with_reducible rfl)
              try simp only [Act.put, List.setIfInBounds_toArray, List.set_cons_zero, List.set_cons_succ]
              refine wpAnyH_ready (rs := [7]) (by kernel_rfl) (by simp) ?_
              refine AllReadyH.cons (o := { dst := some 100, op := Op.call { callee := Callee.value (Operand.func 15), args := #[Operand.tmp 99], argTypes := #[23] }, type := 3, pos := "law.go:126", after := #[{ on := 6, ground := Ground.data }, { on := 5, ground := Ground.chain }, { on := 5, ground := Ground.guard }], guard := some (5, true) }) rfl (fun K hK => ?_) ?_
              rotate_left 1
              · exact AllReadyH.nil
              go_simp
              (first | (go_at_call 14; refine (tybRow (heldS (by assumption)) (by decide) hX.out).mono ?_; rintro e w' ⟨rfl, hb⟩) | (go_at_call 15; refine (tybOdd (heldS (by assumption))).mono ?_; rintro e w' ⟨rfl, hb⟩) | (go_at_call 20; refine (tybRows (heldS (by assumption))).mono ?_; rintro e w' ⟨rfl, hb⟩) | (go_at_call 33; refine (placeV_calls v2 _).mono ?_; rintro e w' ⟨rfl, hb⟩) | (go_at_call 32; refine (chars_bytes V.out.2.1 v5 (grownCap_ge _ _ _ _) (Below.refl _ _)).mono ?_; rintro e w' ⟨A, c', rfl, hb⟩))
              try go_wp2_with (fail)
              refine hK.out _ _ (by (try dsimp only); refine ⟨?_, ?_, ?_⟩ <;> first | assumption | exact held0 (by assumption) | exact held1 (by assumption) | exact heldS (by assumption) | exact k0 | exact k1 | exact keepS2 (below_drew1 (Below.refl _ _)) S9 | exact keepS2 (by assumption) (heldS (by assumption)) | exact keepC2 (by assumption) (held0 (by assumption)) | exact keepC2 (by assumption) (held1 (by assumption)) | exact keepC2 (bytes_below _ _ _) (held0 (by assumption)) | exact keepC2 (bytes_below _ _ _) (held1 (by assumption)) | exact keepS2 (bytes_below _ _ _) (heldS (by assumption))) (fun hHeld => ?_)
              clear hK K
              try simp only [Act.put, List.setIfInBounds_toArray, List.set_cons_zero, List.set_cons_succ]
              refine wpAnyH_take (i := 8) (oi := { dst := some 101, op := Op.binOp BinOp.eql 3 (Operand.tmp 100) (Operand.const (Value.int IntKind.i64 0)) 3, type := 4, pos := "law.go:126", after := #[{ on := 7, ground := Ground.data }, { on := 5, ground := Ground.guard }], guard := some (5, true) }) (v := ?_) rfl (by kernel_rfl) (by kernel_rfl) (by kernel_rfl) (fun _ _ _ h => h) (Or.inl ⟨by rfl, ?_⟩) hHeld ?_
              rotate_left 1
              · (intro wq hSw; (try dsimp only at hSw); go_simp; try with_reducible rfl)
              try simp only [Act.put, List.setIfInBounds_toArray, List.set_cons_zero, List.set_cons_succ]
              refine wpAnyH_take (i := 9) (oi := { dst := some 102, op := Op.pick (Operand.tmp 98) (Operand.tmp 101) (Operand.const (Value.bool false)), type := 4, pos := "law.go:126", after := #[{ on := 5, ground := Ground.data }, { on := 8, ground := Ground.data }], guard := none }) (v := ?_) rfl (by kernel_rfl) (by kernel_rfl) (by kernel_rfl) (fun _ _ _ h => h) (Or.inl ⟨by rfl, ?_⟩) hHeld ?_
              rotate_left 1
              · (intro wq hSw; (try dsimp only at hSw); go_simp; try with_reducible rfl)
              try simp only [Act.put, List.setIfInBounds_toArray, List.set_cons_zero, List.set_cons_succ]
              refine wpAnyH_take (i := 10) (oi := { dst := some 103, op := Op.move (Operand.tmp 102), type := 4, pos := "law.go:126", after := #[{ on := 9, ground := Ground.data }, { on := 7, ground := Ground.chain }], guard := none }) (v := ?_) rfl (by kernel_rfl) (by kernel_rfl) (by kernel_rfl) (fun _ _ _ h => h) (Or.inl ⟨by rfl, ?_⟩) hHeld ?_
              rotate_left 1
              · (intro wq hSw; (try dsimp only at hSw); go_simp; try with_reducible rfl)
              try simp only [Act.put, List.setIfInBounds_toArray, List.set_cons_zero, List.set_cons_succ]
              refine wpAnyH_take (i := 11) (oi := { dst := some 104, op := Op.move (Operand.tmp 18), type := 3, pos := "law.go:126", after := #[{ on := 10, ground := Ground.guard }], guard := some (10, true) }) (v := ?_) rfl (by kernel_rfl) (by kernel_rfl) (by kernel_rfl) (fun _ _ _ h => h) (Or.inl ⟨by rfl, ?_⟩) hHeld ?_
              rotate_left 1
              · (intro wq hSw; (try dsimp only at hSw); go_simp; try with_reducible rfl)
              try simp only [Act.put, List.setIfInBounds_toArray, List.set_cons_zero, List.set_cons_succ]
              refine wpAnyH_take (i := 12) (oi := { dst := some 105, op := Op.fieldAddr 53 (Operand.tmp 3) 0, type := 0, pos := "law.go:126", after := #[{ on := 10, ground := Ground.guard }], guard := some (10, true) }) (v := ?_) rfl (by kernel_rfl) (by kernel_rfl) (by kernel_rfl) (fun _ _ _ h => h) (Or.inl ⟨by rfl, ?_⟩) hHeld ?_
              rotate_left 1
              · (intro wq hSw; (try dsimp only at hSw); go_simp; try with_reducible rfl)
              try simp only [Act.put, List.setIfInBounds_toArray, List.set_cons_zero, List.set_cons_succ]
              refine wpAnyH_take (i := 13) (oi := { dst := some 106, op := Op.load 9 (Operand.tmp 105), type := 9, pos := "law.go:126", after := #[{ on := 12, ground := Ground.data }, { on := 10, ground := Ground.guard }], guard := some (10, true) }) (v := ?_) rfl (by kernel_rfl) (by kernel_rfl) (by kernel_rfl) (fun _ _ _ h => h) (Or.inl ⟨by rfl, ?_⟩) hHeld ?_
              rotate_left 1
              · (intro wq hSw; (try dsimp only at hSw); go_simp; try with_reducible rfl)
              try simp only [Act.put, List.setIfInBounds_toArray, List.set_cons_zero, List.set_cons_succ]
              refine wpAnyH_take (i := 17) (oi := { dst := some 110, op := Op.fieldAddr 53 (Operand.tmp 3) 1, type := 0, pos := "law.go:126", after := #[{ on := 10, ground := Ground.guard }], guard := some (10, true) }) (v := ?_) rfl (by kernel_rfl) (by kernel_rfl) (by kernel_rfl) (fun _ _ _ h => h) (Or.inl ⟨by rfl, ?_⟩) hHeld ?_
              rotate_left 1
              · (intro wq hSw; (try dsimp only at hSw); go_simp; try with_reducible rfl)
              try simp only [Act.put, List.setIfInBounds_toArray, List.set_cons_zero, List.set_cons_succ]
              refine wpAnyH_take (i := 18) (oi := { dst := some 111, op := Op.load 3 (Operand.tmp 110), type := 3, pos := "law.go:126", after := #[{ on := 17, ground := Ground.data }, { on := 10, ground := Ground.guard }], guard := some (10, true) }) (v := ?_) rfl (by kernel_rfl) (by kernel_rfl) (by kernel_rfl) (fun _ _ _ h => h) (Or.inl ⟨by rfl, ?_⟩) hHeld ?_
              rotate_left 1
              · (intro wq hSw; (try dsimp only at hSw); go_simp; try with_reducible rfl)
              try simp only [Act.put, List.setIfInBounds_toArray, List.set_cons_zero, List.set_cons_succ]
              refine wpAnyH_take (i := 19) (oi := { dst := some 112, op := Op.move (Operand.tmp 7), type := 3, pos := "law.go:126", after := #[{ on := 10, ground := Ground.guard }], guard := some (10, true) }) (v := ?_) rfl (by kernel_rfl) (by kernel_rfl) (by kernel_rfl) (fun _ _ _ h => h) (Or.inl ⟨by rfl, ?_⟩) hHeld ?_
              rotate_left 1
              · (intro wq hSw; (try dsimp only at hSw); go_simp; try with_reducible rfl)
              try simp only [Act.put, List.setIfInBounds_toArray, List.set_cons_zero, List.set_cons_succ]
              refine wpAnyH_take (i := 20) (oi := { dst := some 113, op := Op.move (Operand.tmp 8), type := 3, pos := "law.go:126", after := #[{ on := 10, ground := Ground.guard }], guard := some (10, true) }) (v := ?_) rfl (by kernel_rfl) (by kernel_rfl) (by kernel_rfl) (fun _ _ _ h => h) (Or.inl ⟨by rfl, ?_⟩) hHeld ?_
              rotate_left 1
              · (intro wq hSw; (try dsimp only at hSw); go_simp; try with_reducible rfl)
              try simp only [Act.put, List.setIfInBounds_toArray, List.set_cons_zero, List.set_cons_succ]
              refine wpAnyH_ready (rs := [14]) (by kernel_rfl) (by simp) ?_
              refine AllReadyH.cons (o := { dst := some 107, op := Op.convert 9 22 (Operand.tmp 106), type := 22, pos := "law.go:126", after := #[{ on := 13, ground := Ground.data }, { on := 10, ground := Ground.guard }], guard := some (10, true) }) rfl (fun K hK => ?_) ?_
              rotate_left 1
              · exact AllReadyH.nil
              go_simp
              refine hK.out _ _ (by (try dsimp only); refine ⟨?_, ?_, ?_⟩ <;> first | assumption | exact held0 (by assumption) | exact held1 (by assumption) | exact heldS (by assumption) | exact k0 | exact k1 | exact keepS2 (below_drew1 (Below.refl _ _)) S9 | exact keepS2 (by assumption) (heldS (by assumption)) | exact keepC2 (by assumption) (held0 (by assumption)) | exact keepC2 (by assumption) (held1 (by assumption)) | exact keepC2 (bytes_below _ _ _) (held0 (by assumption)) | exact keepC2 (bytes_below _ _ _) (held1 (by assumption)) | exact keepS2 (bytes_below _ _ _) (heldS (by assumption))) (fun hHeld => ?_)
              clear hK K
              try simp only [Act.put, List.setIfInBounds_toArray, List.set_cons_zero, List.set_cons_succ]
              refine wpAnyH_ready (rs := [15]) (by kernel_rfl) (by simp) ?_
              refine AllReadyH.cons (o := { dst := some 108, op := Op.call { callee := Callee.value (Operand.func 32), args := #[Operand.tmp 107], argTypes := #[22] }, type := 33, pos := "law.go:126", after := #[{ on := 14, ground := Ground.data }, { on := 10, ground := Ground.chain }, { on := 10, ground := Ground.guard }], guard := some (10, true) }) rfl (fun K hK => ?_) ?_
              rotate_left 1
              · exact AllReadyH.nil
              go_simp
              (first | (go_at_call 14; refine (tybRow (heldS (by assumption)) (by decide) hX.out).mono ?_; rintro e w' ⟨rfl, hb⟩) | (go_at_call 15; refine (tybOdd (heldS (by assumption))).mono ?_; rintro e w' ⟨rfl, hb⟩) | (go_at_call 20; refine (tybRows (heldS (by assumption))).mono ?_; rintro e w' ⟨rfl, hb⟩) | (go_at_call 33; refine (placeV_calls v2 _).mono ?_; rintro e w' ⟨rfl, hb⟩) | (go_at_call 32; refine (chars_bytes V.out.2.1 v5 (grownCap_ge _ _ _ _) (Below.refl _ _)).mono ?_; rintro e w' ⟨A, c', rfl, hb⟩))
              try go_wp2_with (fail)
              refine hK.out _ _ (by (try dsimp only); refine ⟨?_, ?_, ?_⟩ <;> first | assumption | exact held0 (by assumption) | exact held1 (by assumption) | exact heldS (by assumption) | exact k0 | exact k1 | exact keepS2 (below_drew1 (Below.refl _ _)) S9 | exact keepS2 (by assumption) (heldS (by assumption)) | exact keepC2 (by assumption) (held0 (by assumption)) | exact keepC2 (by assumption) (held1 (by assumption)) | exact keepC2 (bytes_below _ _ _) (held0 (by assumption)) | exact keepC2 (bytes_below _ _ _) (held1 (by assumption)) | exact keepS2 (bytes_below _ _ _) (heldS (by assumption))) (fun hHeld => ?_)
              clear hK K
              try simp only [Act.put, List.setIfInBounds_toArray, List.set_cons_zero, List.set_cons_succ]
              refine wpAnyH_take (i := 16) (oi := { dst := some 109, op := Op.call { callee := Callee.builtin Builtin.len, args := #[Operand.tmp 108], argTypes := #[33] }, type := 3, pos := "law.go:126", after := #[{ on := 15, ground := Ground.data }, { on := 10, ground := Ground.guard }], guard := some (10, true) }) (v := ?_) rfl (by kernel_rfl) (by kernel_rfl) (by kernel_rfl) (fun _ _ _ h => h) (Or.inl ⟨by rfl, ?_⟩) hHeld ?_
              rotate_left 1
              · (intro wq hSw; (try dsimp only at hSw); go_simp; try with_reducible rfl)
              try simp only [Act.put, List.setIfInBounds_toArray, List.set_cons_zero, List.set_cons_succ]
              refine wpAnyH_ready (rs := [21]) (by kernel_rfl) (by simp) ?_
              refine AllReadyH.cons (o := { dst := some 114, op := Op.call { callee := Callee.value (Operand.func 33), args := #[Operand.tmp 111, Operand.tmp 112, Operand.tmp 113], argTypes := #[3, 3, 3] }, type := 3, pos := "law.go:126", after := #[{ on := 18, ground := Ground.data }, { on := 19, ground := Ground.data }, { on := 20, ground := Ground.data }, { on := 15, ground := Ground.chain }, { on := 10, ground := Ground.guard }], guard := some (10, true) }) rfl (fun K hK => ?_) ?_
              rotate_left 1
              · exact AllReadyH.nil
              go_simp
              (first | (go_at_call 14; refine (tybRow (heldS (by assumption)) (by decide) hX.out).mono ?_; rintro e w' ⟨rfl, hb⟩) | (go_at_call 15; refine (tybOdd (heldS (by assumption))).mono ?_; rintro e w' ⟨rfl, hb⟩) | (go_at_call 20; refine (tybRows (heldS (by assumption))).mono ?_; rintro e w' ⟨rfl, hb⟩) | (go_at_call 33; refine (placeV_calls v2 _).mono ?_; rintro e w' ⟨rfl, hb⟩) | (go_at_call 32; refine (chars_bytes V.out.2.1 v5 (grownCap_ge _ _ _ _) (Below.refl _ _)).mono ?_; rintro e w' ⟨A, c', rfl, hb⟩))
              try go_wp2_with (fail)
              refine hK.out _ _ (by (try dsimp only); refine ⟨?_, ?_, ?_⟩ <;> first | assumption | exact held0 (by assumption) | exact held1 (by assumption) | exact heldS (by assumption) | exact k0 | exact k1 | exact keepS2 (below_drew1 (Below.refl _ _)) S9 | exact keepS2 (by assumption) (heldS (by assumption)) | exact keepC2 (by assumption) (held0 (by assumption)) | exact keepC2 (by assumption) (held1 (by assumption)) | exact keepC2 (bytes_below _ _ _) (held0 (by assumption)) | exact keepC2 (bytes_below _ _ _) (held1 (by assumption)) | exact keepS2 (bytes_below _ _ _) (heldS (by assumption))) (fun hHeld => ?_)
              clear hK K
              try simp only [Act.put, List.setIfInBounds_toArray, List.set_cons_zero, List.set_cons_succ]
              refine wpAnyH_take (i := 22) (oi := { dst := some 115, op := Op.binOp BinOp.add 3 (Operand.tmp 109) (Operand.tmp 114) 3, type := 3, pos := "law.go:126", after := #[{ on := 16, ground := Ground.data }, { on := 21, ground := Ground.data }, { on := 10, ground := Ground.guard }], guard := some (10, true) }) (v := ?_) rfl (by kernel_rfl) (by kernel_rfl) (by kernel_rfl) (fun _ _ _ h => h) (Or.inl ⟨by rfl, ?_⟩) hHeld ?_
              rotate_left 1
              · (intro wq hSw; (try dsimp only at hSw); go_simp; try with_reducible rfl)
              try simp only [Act.put, List.setIfInBounds_toArray, List.set_cons_zero, List.set_cons_succ]
              refine wpAnyH_take (i := 23) (oi := { dst := some 116, op := Op.binOp BinOp.eql 3 (Operand.tmp 104) (Operand.tmp 115) 3, type := 4, pos := "law.go:126", after := #[{ on := 11, ground := Ground.data }, { on := 22, ground := Ground.data }, { on := 10, ground := Ground.guard }], guard := some (10, true) }) (v := ?_) rfl (by kernel_rfl) (by kernel_rfl) (by kernel_rfl) (fun _ _ _ h => h) (Or.inl ⟨by rfl, ?_⟩) hHeld ?_
              rotate_left 1
              · (intro wq hSw; (try dsimp only at hSw); go_simp; try with_reducible rfl)
              try simp only [Act.put, List.setIfInBounds_toArray, List.set_cons_zero, List.set_cons_succ]
              refine wpAnyH_take (i := 24) (oi := { dst := some 117, op := Op.pick (Operand.tmp 103) (Operand.tmp 116) (Operand.const (Value.bool false)), type := 4, pos := "law.go:126", after := #[{ on := 10, ground := Ground.data }, { on := 23, ground := Ground.data }], guard := none }) (v := ?_) rfl (by kernel_rfl) (by kernel_rfl) (by kernel_rfl) (fun _ _ _ h => h) (Or.inl ⟨by rfl, ?_⟩) hHeld ?_
              rotate_left 1
              · (intro wq hSw; (try dsimp only at hSw); go_simp; try with_reducible rfl)
              try simp only [Act.put, List.setIfInBounds_toArray, List.set_cons_zero, List.set_cons_succ]
              refine wpAnyH_take (i := 25) (oi := { dst := some 118, op := Op.move (Operand.tmp 117), type := 4, pos := "law.go:126", after := #[{ on := 24, ground := Ground.data }, { on := 21, ground := Ground.chain }], guard := none }) (v := ?_) rfl (by kernel_rfl) (by kernel_rfl) (by kernel_rfl) (fun _ _ _ h => h) (Or.inl ⟨by rfl, ?_⟩) hHeld ?_
              rotate_left 1
              · (intro wq hSw; (try dsimp only at hSw); go_simp; try with_reducible rfl)
              try simp only [Act.put, List.setIfInBounds_toArray, List.set_cons_zero, List.set_cons_succ]
              refine wpAnyH_take (i := 26) (oi := { dst := some 119, op := Op.move (Operand.tmp 11), type := 23, pos := "law.go:126", after := #[{ on := 25, ground := Ground.guard }], guard := some (25, true) }) (v := ?_) rfl (by kernel_rfl) (by kernel_rfl) (by kernel_rfl) (fun _ _ _ h => h) (Or.inl ⟨by rfl, ?_⟩) hHeld ?_
              rotate_left 1
              · (intro wq hSw; (try dsimp only at hSw); go_simp; try with_reducible rfl)
              try simp only [Act.put, List.setIfInBounds_toArray, List.set_cons_zero, List.set_cons_succ]
              refine wpAnyH_ready (rs := [27]) (by kernel_rfl) (by simp) ?_
              refine AllReadyH.cons (o := { dst := some 120, op := Op.call { callee := Callee.value (Operand.func 20), args := #[Operand.tmp 119], argTypes := #[23] }, type := 3, pos := "law.go:126", after := #[{ on := 26, ground := Ground.data }, { on := 25, ground := Ground.chain }, { on := 25, ground := Ground.guard }], guard := some (25, true) }) rfl (fun K hK => ?_) ?_
              rotate_left 1
              · exact AllReadyH.nil
              go_simp
              (first | (go_at_call 14; refine (tybRow (heldS (by assumption)) (by decide) hX.out).mono ?_; rintro e w' ⟨rfl, hb⟩) | (go_at_call 15; refine (tybOdd (heldS (by assumption))).mono ?_; rintro e w' ⟨rfl, hb⟩) | (go_at_call 20; refine (tybRows (heldS (by assumption))).mono ?_; rintro e w' ⟨rfl, hb⟩) | (go_at_call 33; refine (placeV_calls v2 _).mono ?_; rintro e w' ⟨rfl, hb⟩) | (go_at_call 32; refine (chars_bytes V.out.2.1 v5 (grownCap_ge _ _ _ _) (Below.refl _ _)).mono ?_; rintro e w' ⟨A, c', rfl, hb⟩))
              try go_wp2_with (fail)
              refine hK.out _ _ (by (try dsimp only); refine ⟨?_, ?_, ?_⟩ <;> first | assumption | exact held0 (by assumption) | exact held1 (by assumption) | exact heldS (by assumption) | exact k0 | exact k1 | exact keepS2 (below_drew1 (Below.refl _ _)) S9 | exact keepS2 (by assumption) (heldS (by assumption)) | exact keepC2 (by assumption) (held0 (by assumption)) | exact keepC2 (by assumption) (held1 (by assumption)) | exact keepC2 (bytes_below _ _ _) (held0 (by assumption)) | exact keepC2 (bytes_below _ _ _) (held1 (by assumption)) | exact keepS2 (bytes_below _ _ _) (heldS (by assumption))) (fun hHeld => ?_)
              clear hK K
              try simp only [Act.put, List.setIfInBounds_toArray, List.set_cons_zero, List.set_cons_succ]
              refine wpAnyH_take (i := 28) (oi := { dst := some 121, op := Op.binOp BinOp.eql 3 (Operand.tmp 120) (Operand.const (Value.int IntKind.i64 1)) 3, type := 4, pos := "law.go:126", after := #[{ on := 27, ground := Ground.data }, { on := 25, ground := Ground.guard }], guard := some (25, true) }) (v := ?_) rfl (by kernel_rfl) (by kernel_rfl) (by kernel_rfl) (fun _ _ _ h => h) (Or.inl ⟨by rfl, ?_⟩) hHeld ?_
              rotate_left 1
              · (intro wq hSw; (try dsimp only at hSw); go_simp; try with_reducible rfl)
              try simp only [Act.put, List.setIfInBounds_toArray, List.set_cons_zero, List.set_cons_succ]
              refine wpAnyH_take (i := 29) (oi := { dst := some 122, op := Op.pick (Operand.tmp 118) (Operand.tmp 121) (Operand.const (Value.bool false)), type := 4, pos := "law.go:126", after := #[{ on := 25, ground := Ground.data }, { on := 28, ground := Ground.data }], guard := none }) (v := ?_) rfl (by kernel_rfl) (by kernel_rfl) (by kernel_rfl) (fun _ _ _ h => h) (Or.inl ⟨by rfl, ?_⟩) hHeld ?_
              rotate_left 1
              · (intro wq hSw; (try dsimp only at hSw); go_simp; try with_reducible rfl)
              try simp only [Act.put, List.setIfInBounds_toArray, List.set_cons_zero, List.set_cons_succ]
              refine wpAnyH_take (i := 30) (oi := { dst := some 6, op := Op.assign (Operand.tmp 122), type := 4, pos := "law.go:126", after := #[{ on := 29, ground := Ground.data }, { on := 27, ground := Ground.chain }, { on := 0, ground := Ground.phase }, { on := 1, ground := Ground.phase }, { on := 2, ground := Ground.phase }, { on := 3, ground := Ground.phase }, { on := 4, ground := Ground.phase }, { on := 5, ground := Ground.phase }, { on := 6, ground := Ground.phase }, { on := 7, ground := Ground.phase }, { on := 8, ground := Ground.phase }, { on := 9, ground := Ground.phase }, { on := 10, ground := Ground.phase }, { on := 11, ground := Ground.phase }, { on := 12, ground := Ground.phase }, { on := 13, ground := Ground.phase }, { on := 14, ground := Ground.phase }, { on := 15, ground := Ground.phase }, { on := 16, ground := Ground.phase }, { on := 17, ground := Ground.phase }, { on := 18, ground := Ground.phase }, { on := 19, ground := Ground.phase }, { on := 20, ground := Ground.phase }, { on := 21, ground := Ground.phase }, { on := 22, ground := Ground.phase }, { on := 23, ground := Ground.phase }, { on := 24, ground := Ground.phase }, { on := 25, ground := Ground.phase }, { on := 26, ground := Ground.phase }, { on := 27, ground := Ground.phase }, { on := 28, ground := Ground.phase }, { on := 29, ground := Ground.phase }], guard := none }) (v := ?_) rfl (by kernel_rfl) (by kernel_rfl) (by kernel_rfl) (fun _ _ _ h => h) (Or.inl ⟨by rfl, ?_⟩) hHeld ?_
              rotate_left 1
              · (intro wq hSw; (try dsimp only at hSw); go_simp; try with_reducible rfl)
              try simp only [Act.put, List.setIfInBounds_toArray, List.set_cons_zero, List.set_cons_succ]
              refine wpAnyH_done (by kernel_rfl) ?_ _
              refine NoPanic.normal ?_
              have hEnd := Aside0.mk (Z1.out.trans ((heldS hHeld).b.mono Z1.out.size))
              clear hHeld S9 k0 k1 hconv
              go_wp2_with (fail)
              go_ret
              exact ⟨rfl, hEnd.out⟩
  · have f1 : (r2 != 0) = true := by simpa using hr2
    have f0 : (r2 == 0) = false := by simpa using hr2
    go_wp2_with (fail)
    refine ha2.mono ?_
    rintro e w3 ⟨rfl, hb3⟩
    have Z3 := Aside0.mk (Z1.out.trans ((S2.out.below hb3).b.mono Z1.out.size))
    clear hb3
    go_wp2_with (fail)
    go_ret
    exact ⟨rfl, Z3.out⟩
end Go.Proofs.YtmdeehblmkpddaaDoor.Hand
