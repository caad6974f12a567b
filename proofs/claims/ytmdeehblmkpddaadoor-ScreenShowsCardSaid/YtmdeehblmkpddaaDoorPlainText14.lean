/- Characters written into a row, in plain words. -/
import Derived.Test.YtmdeehblmkpddaaDoorHandTabOf14
import Derived.Test.YtmdeehblmkpddaaDoorPBytesx1
namespace Go.Proofs.YtmdeehblmkpddaaDoor.Hand
open Go.RowKit
set_option linter.unusedVariables false
set_option linter.unusedSimpArgs false
/-- A character's bytes are the character. -/
theorem next_enc (c : Int) (h : isChar c = true) : nxL (enc c) = (c.toNat, (enc c).length, 0) := by
  have h' := (isChar_iff c).1 h
  obtain ⟨n, rfl⟩ : ∃ n : Nat, c = n := ⟨c.toNat, by omega⟩
  rw [Int.toNat_natCast]
  unfold enc
  split
  · have e : at0 [(n : Int)] 0 = n := by simp [at0]
    rw [show nxL [(n : Int)] = nx 1 (at0 [(n : Int)] 0) (at0 [(n : Int)] 1) (at0 [(n : Int)] 2) (at0 [(n : Int)] 3) from rfl, e]
    unfold nx
    rw [if_pos (by omega)]
    rfl
  split
  · rename_i h1 h2
    have e0 : (192 + (n : Int) / 64).toNat = 192 + n / 64 := by omega
    have e1 : (128 + (n : Int) % 64).toNat = 128 + n % 64 := by omega
    have hl : ¬ (128 + n % 64 < nlo (192 + n / 64) ∨ nhi (192 + n / 64) < 128 + n % 64) := by
      unfold nlo nhi
      rw [if_neg (by omega), if_neg (by omega), if_neg (by omega), if_neg (by omega)]
      omega
    rw [show nxL [192 + (n : Int) / 64, 128 + (n : Int) % 64] = nx 2 (192 + (n : Int) / 64).toNat (128 + (n : Int) % 64).toNat 0 0 from rfl, e0, e1]
    unfold nx
    rw [if_neg (by omega), if_neg (by omega), if_neg (by omega), if_neg hl, if_pos (by omega)]
    refine Prod.ext ?_ rfl
    show (192 + n / 64) % 32 * 64 + (128 + n % 64) % 64 = n
    omega
  split
  · rename_i h1 h2 h3
    have e0 : (224 + (n : Int) / 4096).toNat = 224 + n / 4096 := by omega
    have e1 : (128 + (n : Int) / 64 % 64).toNat = 128 + n / 64 % 64 := by omega
    have e2 : (128 + (n : Int) % 64).toNat = 128 + n % 64 := by omega
    have hl : ¬ (128 + n / 64 % 64 < nlo (224 + n / 4096) ∨ nhi (224 + n / 4096) < 128 + n / 64 % 64) := by
      unfold nlo nhi
      repeat' split
      all_goals omega
    rw [show nxL [224 + (n : Int) / 4096, 128 + (n : Int) / 64 % 64, 128 + (n : Int) % 64] = nx 3 (224 + (n : Int) / 4096).toNat (128 + (n : Int) / 64 % 64).toNat (128 + (n : Int) % 64).toNat 0 from rfl, e0, e1, e2]
    unfold nx
    rw [if_neg (by omega), if_neg (by omega), if_neg (by omega), if_neg hl, if_neg (by omega), if_neg (by omega), if_neg (by omega), if_pos (by omega)]
    refine Prod.ext ?_ rfl
    show (224 + n / 4096) % 16 * 4096 + (128 + n / 64 % 64) % 64 * 64 + (128 + n % 64) % 64 = n
    omega
  · rename_i h1 h2 h3
    have e0 : (240 + (n : Int) / 262144).toNat = 240 + n / 262144 := by omega
    have e1 : (128 + (n : Int) / 4096 % 64).toNat = 128 + n / 4096 % 64 := by omega
    have e2 : (128 + (n : Int) / 64 % 64).toNat = 128 + n / 64 % 64 := by omega
    have e3 : (128 + (n : Int) % 64).toNat = 128 + n % 64 := by omega
    have hl : ¬ (128 + n / 4096 % 64 < nlo (240 + n / 262144) ∨ nhi (240 + n / 262144) < 128 + n / 4096 % 64) := by
      unfold nlo nhi
      repeat' split
      all_goals omega
    rw [show nxL [240 + (n : Int) / 262144, 128 + (n : Int) / 4096 % 64, 128 + (n : Int) / 64 % 64, 128 + (n : Int) % 64] = nx 4 (240 + (n : Int) / 262144).toNat (128 + (n : Int) / 4096 % 64).toNat (128 + (n : Int) / 64 % 64).toNat (128 + (n : Int) % 64).toNat from rfl, e0, e1, e2, e3]
    unfold nx
    rw [if_neg (by omega), if_neg (by omega), if_neg (by omega), if_neg hl, if_neg (by omega), if_neg (by omega), if_neg (by omega), if_neg (by omega), if_neg (by omega), if_neg (by omega)]
    refine Prod.ext ?_ rfl
    show (240 + n / 262144) % 8 * 262144 + (128 + n / 4096 % 64) % 64 * 4096 + (128 + n / 64 % 64) % 64 * 64 + (128 + n % 64) % 64 = n
    omega
theorem encS_head (c : Int) (h : prn c = true) : (enc c).getD 0 0 ≠ 27 ∧ enc c ≠ [] := by
  have := (prn_iff c).1 h
  unfold enc
  split
  · simp; omega
  · split
    · simp; omega
    · split
      · simp; omega
      · simp; omega
theorem prnS_char {c : Int} (h : prn c = true) : isChar c = true := by
  have := (prn_iff c).1 h
  exact (isChar_iff c).2 ⟨by omega, this.2.1, this.2.2.1⟩
theorem feed_enc (s : SM) (hs : s.wait = []) (c : Int) (h : prn c = true) : s.feed (enc c) = s.show c := by
  obtain ⟨h27, hne⟩ := encS_head c h
  have hc := (prn_iff c).1 h
  have hnx := next_enc c (prnS_char h)
  have hst : (s.put (enc c)).step = ((s.show c).put (enc c), (enc c).length) := by
    unfold SM.step
    rw [put_wait, if_neg h27, hnx]
    simp only
    rw [if_neg (by decide), if_pos trivial, show ((c.toNat : Nat) : Int) = c by omega, char_put, odds_put]
    have : s.char c = (s.show c, true) := by
      unfold SM.char
      rw [if_pos h]
    rw [this]
    rfl
  have hl : 0 < (enc c).length := List.length_pos_iff.2 hne
  rw [feed_all, hs, List.nil_append]
  unfold SM.all
  rw [run_next (s := s.put (enc c)) hne (by rw [hst]; show (enc c).length ≠ 0; omega), hst, put_wait]
  show SM.run ((enc c).drop (enc c).length).length ((s.show c).put ((enc c).drop (enc c).length)) = _
  rw [List.drop_length]
  show (s.show c).put [] = s.show c
  rw [← hs]
  rfl
/-- y written over x. -/
def ty (x y : List Int) : SM := ⟨[y ++ x.drop y.length], 0, y.length, [], 0, false, 0⟩
theorem ty_fresh : SM.fresh = ty [] [] := rfl
theorem ty_show (x y : List Int) (c : Int) (h : prn c = true) : (ty x y).feed (enc c) = ty x (y ++ [c]) := by
  rw [feed_enc _ rfl c h]
  have hl : showL (y ++ x.drop y.length) y.length c = (y ++ [c]) ++ x.drop (y.length + 1) := by
    unfold showL
    by_cases hx : y.length < x.length
    · rw [List.length_append, List.length_drop, show y.length + 1 - (y.length + (x.length - y.length)) = 0 by omega]
      rw [List.replicate_zero, List.append_nil, List.set_append_right _ _ (Nat.le_refl _), Nat.sub_self]
      rw [List.drop_eq_getElem_cons hx, List.append_assoc]
      rfl
    · rw [List.drop_of_length_le (by omega), List.append_nil, show y.length + 1 - y.length = 1 by omega, List.drop_of_length_le (by omega), List.append_nil]
      show (y ++ [32]).set y.length c = _
      rw [List.set_append_right _ _ (Nat.le_refl _), Nat.sub_self]
      rfl
  unfold ty
  rw [show (y ++ [c]).length = y.length + 1 by simp, ← hl]
  rfl
theorem ty_back (x : List Int) : (ty [] x).feed [13] = ty x [] := by
  have h : (ty [] x).feed [13] = { (ty [] x) with col := 0 } := rfl
  rw [h]
  unfold ty
  simp
end Go.Proofs.YtmdeehblmkpddaaDoor.Hand

namespace Go.Proofs.YtmdeehblmkpddaaDoor.Hand
open Go.RowKit Go.Proofs.YtmdeehblmkpddaaDoorW.PrintWords Go.Proofs.YtmdeehblmkpddaaDoorW.PrintLast
set_option linter.unusedVariables false
set_option linter.unusedSimpArgs false
theorem encode_enc (c : Int) (h : isChar c = true) : Utf8.encode c = strOfNums (enc c) := by
  have h' := (isChar_iff c).1 h
  obtain ⟨n, rfl⟩ : ∃ n : Nat, c = n := ⟨c.toNat, by omega⟩
  have hv : Utf8.valid (n : Int) = true := by
    unfold Utf8.valid
    simp
    omega
  unfold Utf8.encode enc
  rw [if_pos hv]
  simp only [Int.toNat_natCast]
  by_cases h1 : n < 128
  · rw [if_pos h1, if_pos (show (n : Int) < 128 by omega)]
    simp [strOfNums]
  · rw [if_neg h1, if_neg (show ¬ (n : Int) < 128 by omega)]
    by_cases h2 : n < 2048
    · rw [if_pos h2, if_pos (show (n : Int) < 2048 by omega)]
      have e0 : (192 + (n : Int) / 64).toNat = 192 + n / 64 := by omega
      have e1 : (128 + (n : Int) % 64).toNat = 128 + n % 64 := by omega
      simp [strOfNums, e0, e1]
    · rw [if_neg h2, if_neg (show ¬ (n : Int) < 2048 by omega)]
      by_cases h3 : n < 65536
      · rw [if_pos h3, if_pos (show (n : Int) < 65536 by omega)]
        have e0 : (224 + (n : Int) / 4096).toNat = 224 + n / 4096 := by omega
        have e1 : (128 + (n : Int) / 64 % 64).toNat = 128 + n / 64 % 64 := by omega
        have e2 : (128 + (n : Int) % 64).toNat = 128 + n % 64 := by omega
        simp [strOfNums, e0, e1, e2]
      · rw [if_neg h3, if_neg (show ¬ (n : Int) < 65536 by omega)]
        have e0 : (240 + (n : Int) / 262144).toNat = 240 + n / 262144 := by omega
        have e1 : (128 + (n : Int) / 4096 % 64).toNat = 128 + n / 4096 % 64 := by omega
        have e2 : (128 + (n : Int) / 64 % 64).toNat = 128 + n / 64 % 64 := by omega
        have e3 : (128 + (n : Int) % 64).toNat = 128 + n % 64 := by omega
        simp [strOfNums, e0, e1, e2, e3]
theorem nums_app (a b : List Int) : strOfNums (a ++ b) = strOfNums a ++ strOfNums b := by
  apply ByteArray.ext
  simp [strOfNums]
theorem runes_from : ∀ (l : List Int) (s : List Int), (∀ x ∈ l, isChar x = true) → l.foldl (fun r n => r ++ Utf8.encode n) (strOfNums s) = strOfNums (s ++ l.flatMap enc)
  | [], s, _ => by simp
  | c :: r, s, h => by
    rw [List.foldl_cons, encode_enc c (h c (by simp)), ← nums_app, runes_from r _ (fun x hx => h x (by simp [hx]))]
    simp
theorem runes_text (l : List Int) (h : ∀ x ∈ l, isChar x = true) : runesBytes l = strOfNums (l.flatMap enc) := by
  have := runes_from l [] h
  rw [List.nil_append] at this
  exact this
theorem w64' {x : Int} (h0 : 0 ≤ x) (h1 : x ≤ 9223372036854775807) : wrap64 x = x := by unfold wrap64; omega
theorem put14 (c : Int) (h0 : 0 ≤ c) (h1 : c ≤ 1114111) : PBytes.whispererref01_Put.f c = some (enc c) := by
  unfold PBytes.whispererref01_Put.f enc
  rw [Int.tdiv_eq_ediv_of_nonneg h0, Int.tdiv_eq_ediv_of_nonneg h0, Int.tdiv_eq_ediv_of_nonneg h0, Int.tmod_eq_emod_of_nonneg h0]
  have e1 : wrap64 (c / 64) = c / 64 := w64' (by omega) (by omega)
  have e2 : wrap64 (c / 4096) = c / 4096 := w64' (by omega) (by omega)
  have e3 : wrap64 (c / 262144) = c / 262144 := w64' (by omega) (by omega)
  rw [e1, e2, e3, Int.tmod_eq_emod_of_nonneg (show 0 ≤ c / 64 by omega), Int.tmod_eq_emod_of_nonneg (show 0 ≤ c / 4096 by omega)]
  rw [w64' (x := 192 + c / 64) (by omega) (by omega), w64' (x := 224 + c / 4096) (by omega) (by omega), w64' (x := 240 + c / 262144) (by omega) (by omega), w64' (x := 128 + c % 64) (by omega) (by omega), w64' (x := 128 + c / 64 % 64) (by omega) (by omega), w64' (x := 128 + c / 4096 % 64) (by omega) (by omega)]
  have m1 : (128 + c % 64) % 256 = 128 + c % 64 := by omega
  have m2 : (128 + c / 64 % 64) % 256 = 128 + c / 64 % 64 := by omega
  have m3 : (128 + c / 4096 % 64) % 256 = 128 + c / 4096 % 64 := by omega
  rw [m1, m2, m3]
  by_cases c1 : c < 128
  · rw [if_pos c1, if_pos c1, show c % 256 = c by omega]
  · rw [if_neg c1, if_neg c1]
    by_cases c2 : c < 2048
    · rw [if_pos c2, if_pos c2, show (192 + c / 64) % 256 = 192 + c / 64 by omega]
    · rw [if_neg c2, if_neg c2]
      by_cases c3 : c < 65536
      · rw [if_pos c3, if_pos c3, show (224 + c / 4096) % 256 = 224 + c / 4096 by omega]
      · rw [if_neg c3, if_neg c3, show (240 + c / 262144) % 256 = 240 + c / 262144 by omega]
theorem encS_len (c : Int) : (enc c).length ≤ 4 := by
  unfold enc
  repeat' split
  all_goals simp
theorem flat_len : ∀ l : List Int, (l.flatMap enc).length ≤ 4 * l.length
  | [] => by simp
  | c :: r => by
    have h1 := encS_len c
    have h2 := flat_len r
    rw [List.flatMap_cons, List.length_append, List.length_cons]
    omega
theorem bytes_from (l : List Int) (hl : l.length ≤ 100000) (h : ∀ x ∈ l, 0 ≤ x ∧ x ≤ 1114111) : ∀ (d i : Nat), i + d = l.length → PBytes.whispererref11_Bytes.l0 (d + 1) l ((l.take i).flatMap enc) (i : Int) = some (l.flatMap enc)
  | 0, i, hd => by
    unfold PBytes.whispererref11_Bytes.l0
    rw [if_neg (by omega), List.take_of_length_le (by omega)]
  | d + 1, i, hd => by
    have hi : i < l.length := by omega
    unfold PBytes.whispererref11_Bytes.l0
    rw [if_pos (by omega), if_pos (by omega)]
    have hr : rd l (i : Int) = l[i] := by
      simp [rd, List.getD_eq_getElem?_getD, List.getElem?_eq_getElem hi]
    have hb := h _ (List.getElem_mem hi)
    rw [hr, put14 _ hb.1 hb.2, Option.bind_some]
    have h1 := flat_len (l.take i)
    rw [List.length_take] at h1
    have h2 := encS_len l[i]
    rw [if_pos (by omega), w64' (by omega) (by omega)]
    have h3 : (l.take i).flatMap enc ++ enc l[i] = (l.take (i + 1)).flatMap enc := by
      rw [List.take_succ_eq_append_getElem hi, List.flatMap_append]
      simp
    rw [h3]
    exact bytes_from l hl h d (i + 1) (by omega)
theorem bytes_f (l : List Int) (hl : l.length ≤ 100000) (h : ∀ x ∈ l, 0 ≤ x ∧ x ≤ 1114111) : PBytes.whispererref11_Bytes.f (l.length + 1) l = some (l.flatMap enc) := by
  have := bytes_from l hl h l.length 0 (by omega)
  exact this
set_option maxRecDepth 100000 in
theorem text14_ok (A : Option Addr) (c : Nat) (l : List Int) (w : World) (hr : Kd.C (Kd.int .i64) w A l.length l) (hc : l.length ≤ c) (hl : l.length ≤ 100000) (h : ∀ x ∈ l, isChar x = true) :
    Calls Tryd.prog 19 #[.slice A l.length c] w fun e w' => e = .returned (.string (runesBytes l)) ∧ Below w.heap.size w w' := by
  have HB := PBytes.whispererref11_Bytes.calls (l.length + 1) A c l _ w hr hc (bytes_f l hl (fun x hx => by have := (isChar_iff x).1 (h x hx); omega))
  rw [runes_text l h]
  clear hr h
  generalize l.flatMap enc = r at *
  go_enter Tryd.func19, Tryd.ntmps19
  go_wp2_with (fail)
  refine HB.mono ?_
  rintro e w1 ⟨v, rfl, hR, hb⟩
  have hcv : (Go.convert 22 9 v).run Tryd.prog w1 = .ok (.string (strOfNums r)) w1 := by
    obtain ⟨A1, c1, rfl, _, hC1⟩ := Kd.R_reads hR
    exact Kd.C_string Tryd.underlying22 Tryd.underlying5 Tryd.underlying9 hC1
  have hbA := Aside0.mk hb
  clear hb HB hR
  go_wp2_with (fail)
  go_ret
  exact ⟨rfl, hbA.out⟩
end Go.Proofs.YtmdeehblmkpddaaDoor.Hand
