/- Characters written into a row, in plain words. -/
import Derived.Test.YtmdeehblmkpddaaDoorHandTabOf14
namespace Go.Proofs.YtmdeehblmkpddaaDoor.Hand
open Go.RowKit
set_option linter.unusedVariables false
set_option linter.unusedSimpArgs false
/-- A character's bytes are the character. -/
theorem next_enc (c : Int) (h : isChar c = true) : nxL (enc c) = (c.toNat, (enc c).length, 0) := by
  have h' := (isChar_iff c).1 h
  obtain ⟨n, rfl⟩ : ∃ n : Nat, c = n := ⟨c.toNat, by omega⟩
  rw [Int.toNat_natCast]
  unfold enc
  split
  · have e : at0 [(n : Int)] 0 = n := by simp [at0]
    rw [show nxL [(n : Int)] = nx 1 (at0 [(n : Int)] 0) (at0 [(n : Int)] 1) (at0 [(n : Int)] 2) (at0 [(n : Int)] 3) from rfl, e]
    unfold nx
    rw [if_pos (by omega)]
    rfl
  split
  · rename_i h1 h2
    have e0 : (192 + (n : Int) / 64).toNat = 192 + n / 64 := by omega
    have e1 : (128 + (n : Int) % 64).toNat = 128 + n % 64 := by omega
    have hl : ¬ (128 + n % 64 < nlo (192 + n / 64) ∨ nhi (192 + n / 64) < 128 + n % 64) := by
      unfold nlo nhi
      rw [if_neg (by omega), if_neg (by omega), if_neg (by omega), if_neg (by omega)]
      omega
    rw [show nxL [192 + (n : Int) / 64, 128 + (n : Int) % 64] = nx 2 (192 + (n : Int) / 64).toNat (128 + (n : Int) % 64).toNat 0 0 from rfl, e0, e1]
    unfold nx
    rw [if_neg (by omega), if_neg (by omega), if_neg (by omega), if_neg hl, if_pos (by omega)]
    refine Prod.ext ?_ rfl
    show (192 + n / 64) % 32 * 64 + (128 + n % 64) % 64 = n
    omega
  split
  · rename_i h1 h2 h3
    have e0 : (224 + (n : Int) / 4096).toNat = 224 + n / 4096 := by omega
    have e1 : (128 + (n : Int) / 64 % 64).toNat = 128 + n / 64 % 64 := by omega
    have e2 : (128 + (n : Int) % 64).toNat = 128 + n % 64 := by omega
    have hl : ¬ (128 + n / 64 % 64 < nlo (224 + n / 4096) ∨ nhi (224 + n / 4096) < 128 + n / 64 % 64) := by
      unfold nlo nhi
      repeat' split
      all_goals omega
    rw [show nxL [224 + (n : Int) / 4096, 128 + (n : Int) / 64 % 64, 128 + (n : Int) % 64] = nx 3 (224 + (n : Int) / 4096).toNat (128 + (n : Int) / 64 % 64).toNat (128 + (n : Int) % 64).toNat 0 from rfl, e0, e1, e2]
    unfold nx
    rw [if_neg (by omega), if_neg (by omega), if_neg (by omega), if_neg hl, if_neg (by omega), if_neg (by omega), if_neg (by omega), if_pos (by omega)]
    refine Prod.ext ?_ rfl
    show (224 + n / 4096) % 16 * 4096 + (128 + n / 64 % 64) % 64 * 64 + (128 + n % 64) % 64 = n
    omega
  · rename_i h1 h2 h3
    have e0 : (240 + (n : Int) / 262144).toNat = 240 + n / 262144 := by omega
    have e1 : (128 + (n : Int) / 4096 % 64).toNat = 128 + n / 4096 % 64 := by omega
    have e2 : (128 + (n : Int) / 64 % 64).toNat = 128 + n / 64 % 64 := by omega
    have e3 : (128 + (n : Int) % 64).toNat = 128 + n % 64 := by omega
    have hl : ¬ (128 + n / 4096 % 64 < nlo (240 + n / 262144) ∨ nhi (240 + n / 262144) < 128 + n / 4096 % 64) := by
      unfold nlo nhi
      repeat' split
      all_goals omega
    rw [show nxL [240 + (n : Int) / 262144, 128 + (n : Int) / 4096 % 64, 128 + (n : Int) / 64 % 64, 128 + (n : Int) % 64] = nx 4 (240 + (n : Int) / 262144).toNat (128 + (n : Int) / 4096 % 64).toNat (128 + (n : Int) / 64 % 64).toNat (128 + (n : Int) % 64).toNat from rfl, e0, e1, e2, e3]
    unfold nx
    rw [if_neg (by omega), if_neg (by omega), if_neg (by omega), if_neg hl, if_neg (by omega), if_neg (by omega), if_neg (by omega), if_neg (by omega), if_neg (by omega), if_neg (by omega)]
    refine Prod.ext ?_ rfl
    show (240 + n / 262144) % 8 * 262144 + (128 + n / 4096 % 64) % 64 * 4096 + (128 + n / 64 % 64) % 64 * 64 + (128 + n % 64) % 64 = n
    omega
theorem encS_head (c : Int) (h : prn c = true) : (enc c).getD 0 0 ≠ 27 ∧ enc c ≠ [] := by
  have := (prn_iff c).1 h
  unfold enc
  split
  · simp; omega
  · split
    · simp; omega
    · split
      · simp; omega
      · simp; omega
theorem prnS_char {c : Int} (h : prn c = true) : isChar c = true := by
  have := (prn_iff c).1 h
  exact (isChar_iff c).2 ⟨by omega, this.2.1, this.2.2.1⟩
theorem feed_enc (s : SM) (hs : s.wait = []) (c : Int) (h : prn c = true) : s.feed (enc c) = s.show c := by
  obtain ⟨h27, hne⟩ := encS_head c h
  have hc := (prn_iff c).1 h
  have hnx := next_enc c (prnS_char h)
  have hst : (s.put (enc c)).step = ((s.show c).put (enc c), (enc c).length) := by
    unfold SM.step
    rw [put_wait, if_neg h27, hnx]
    simp only
    rw [if_neg (by decide), if_pos trivial, show ((c.toNat : Nat) : Int) = c by omega, char_put, odds_put]
    have : s.char c = (s.show c, true) := by
      unfold SM.char
      rw [if_pos h]
    rw [this]
    rfl
  have hl : 0 < (enc c).length := List.length_pos_iff.2 hne
  rw [feed_all, hs, List.nil_append]
  unfold SM.all
  rw [run_next (s := s.put (enc c)) hne (by rw [hst]; show (enc c).length ≠ 0; omega), hst, put_wait]
  show SM.run ((enc c).drop (enc c).length).length ((s.show c).put ((enc c).drop (enc c).length)) = _
  rw [List.drop_length]
  show (s.show c).put [] = s.show c
  rw [← hs]
  rfl
/-- y written over x. -/
def ty (x y : List Int) : SM := ⟨[y ++ x.drop y.length], 0, y.length, [], 0, false, 0⟩
theorem ty_fresh : SM.fresh = ty [] [] := rfl
theorem ty_show (x y : List Int) (c : Int) (h : prn c = true) : (ty x y).feed (enc c) = ty x (y ++ [c]) := by
  rw [feed_enc _ rfl c h]
  have hl : showL (y ++ x.drop y.length) y.length c = (y ++ [c]) ++ x.drop (y.length + 1) := by
    unfold showL
    by_cases hx : y.length < x.length
    · rw [List.length_append, List.length_drop, show y.length + 1 - (y.length + (x.length - y.length)) = 0 by omega]
      rw [List.replicate_zero, List.append_nil, List.set_append_right _ _ (Nat.le_refl _), Nat.sub_self]
      rw [List.drop_eq_getElem_cons hx, List.append_assoc]
      rfl
    · rw [List.drop_of_length_le (by omega), List.append_nil, show y.length + 1 - y.length = 1 by omega, List.drop_of_length_le (by omega), List.append_nil]
      show (y ++ [32]).set y.length c = _
      rw [List.set_append_right _ _ (Nat.le_refl _), Nat.sub_self]
      rfl
  unfold ty
  rw [show (y ++ [c]).length = y.length + 1 by simp, ← hl]
  rfl
theorem ty_back (x : List Int) : (ty [] x).feed [13] = ty x [] := by
  have h : (ty [] x).feed [13] = { (ty [] x) with col := 0 } := rfl
  rw [h]
  unfold ty
  simp
end Go.Proofs.YtmdeehblmkpddaaDoor.Hand
