/- What utf.Put and utf.Printable answer (printed under PPrintable). -/
import Derived.Test.YtmdeehblmkpddaaDoorPPrintablex1
import Derived.Test.YtmdeehblmkpddaaDoorHandPlain
import Derived.Laws.BitsAllLaws
namespace Go.Proofs.YtmdeehblmkpddaaDoor.Hand
open Go.RowKit Go.Proofs.YtmdeehblmkpddaaDoor.PPrintable Go.Proofs.YtmdeehblmkpddaaDoorW.PrintWords Go.Proofs.YtmdeehblmkpddaaDoorW.PrintLast
set_option linter.unusedVariables false
set_option linter.unusedSimpArgs false

theorem or_join (i : Nat) (x y : Int) (hx0 : 0 ≤ x) (hx : x < 256) (hy0 : 0 ≤ y) (hy : y.toNat < 2 ^ i) (hi : x.toNat % 2 ^ i = 0) (h : y < 256) : Go.bits .or .u8 x y = x + y := by
  rw [Go.u8_or x y hx0 hx hy0 h, Go.nat_join i _ _ hi hy]
  omega

theorem valid_eq (c : Int) (k : Nat) (h0 : 0 ≤ c) (h1 : c ≤ 1114111) : utf8_ValidRune.f (k + 1) c = some (isChar c) := by
  unfold utf8_ValidRune.f
  simp only [utf8_ValidRune.j0]
  rw [if_pos h0]
  by_cases h2 : c < 55296
  · rw [decide_eq_true h2, if_pos rfl]
    have : isChar c = true := (isChar_iff c).2 (by omega)
    rw [this]
  · rw [decide_eq_false h2, if_neg (by decide)]
    by_cases h3 : 57343 < c
    · rw [if_pos h3, if_pos h1]
      have : isChar c = true := (isChar_iff c).2 (by omega)
      rw [this]
    · rw [if_neg h3]
      have : isChar c = false := by
        rw [Bool.eq_false_iff]
        intro h
        have := (isChar_iff c).1 h
        omega
      rw [this]

theorem append_eq (c : Int) (k : Nat) (h : isChar c = true) : utf8_AppendRune.f (k + 1) [] c = some (enc c) := by
  have hc := (isChar_iff c).1 h
  have e32 : c % 4294967296 = c := by omega
  have e4 : Go.bits .or .u8 128 (Go.bits .and .u8 (c % 256) 63) = 128 + c % 64 := or128 c
  have e3 : Go.bits .or .u8 128 (Go.bits .and .u8 (c / 64 % 256) 63) = 128 + c / 64 % 64 := or128 (c / 64)
  have e2 : Go.bits .or .u8 128 (Go.bits .and .u8 (c / 4096 % 256) 63) = 128 + c / 4096 % 64 := or128 (c / 4096)
  unfold utf8_AppendRune.f enc
  rw [e32]
  by_cases h1 : c ≤ 127
  · rw [if_pos h1, if_pos (show c < 128 by omega)]
    have : c % 256 = c := by omega
    simp [this]
  · rw [if_neg h1, if_neg (show ¬ c < 128 by omega)]
    unfold utf8_appendRuneNonASCII.f
    rw [e32]
    simp only [utf8_appendRuneNonASCII.j0, Option.bind_some, List.length_nil, List.length_cons, List.nil_append, e2, e3, e4]
    by_cases h2 : c ≤ 2047
    · rw [if_pos h2, if_pos (by omega), if_pos (show c < 2048 by omega)]
      have e1 : Go.bits .or .u8 192 (c / 64 % 256) = 192 + c / 64 := by
        have : c / 64 % 256 = c / 64 := by omega
        rw [this]
        exact or_join 5 192 (c / 64) (by omega) (by omega) (by omega) (by omega) (by decide) (by omega)
      rw [e1]
      rfl
    · rw [if_neg h2, if_neg (show ¬ c < 2048 by omega)]
      have f1 : c < 65536 → Go.bits .or .u8 224 (c / 4096 % 256) = 224 + c / 4096 := by
        intro hlt
        have : c / 4096 % 256 = c / 4096 := by omega
        rw [this]
        exact or_join 4 224 (c / 4096) (by omega) (by omega) (by omega) (by omega) (by decide) (by omega)
      by_cases h3 : c < 55296
      · rw [if_pos h3, decide_eq_true h3, if_pos rfl, if_pos (by omega), if_pos (show c < 65536 by omega), f1 (by omega)]
        rfl
      · rw [if_neg h3, if_pos (show 57343 < c by omega)]
        by_cases h4 : c ≤ 65535
        · rw [decide_eq_true h4, if_pos rfl, if_pos (by omega), if_pos (show c < 65536 by omega), f1 (by omega)]
          rfl
        · rw [decide_eq_false h4, if_neg (by decide), if_pos (show c > 65535 by omega), if_pos hc.2.1, if_pos (by omega), if_neg (show ¬ c < 65536 by omega)]
          have e1 : Go.bits .or .u8 240 (c / 262144 % 256) = 240 + c / 262144 := by
            have : c / 262144 % 256 = c / 262144 := by omega
            rw [this]
            exact or_join 3 240 (c / 262144) (by omega) (by omega) (by omega) (by omega) (by decide) (by omega)
          rw [e1]
          rfl

theorem put_eq (c : Int) (k : Nat) : utf_Put.f (k + 1) c = some (if isChar c = true then (enc c, 0) else ([], 3)) := by
  unfold utf_Put.f
  by_cases h0 : c < 0
  · rw [if_pos h0, if_neg]
    intro h
    have := (isChar_iff c).1 h
    omega
  · rw [if_neg h0]
    by_cases h1 : c > 1114111
    · rw [if_pos h1, if_neg]
      intro h
      have := (isChar_iff c).1 h
      omega
    · rw [if_neg h1]
      have e : wrap32 c = c := by unfold wrap32; omega
      rw [e, valid_eq c k (by omega) (by omega)]
      simp only [Option.bind_some]
      by_cases h2 : isChar c = true
      · rw [if_pos h2, if_pos h2, append_eq c k h2]
        rfl
      · rw [if_neg h2, if_neg h2]

theorem prn_eq (c : Int) (k : Nat) : utf_Printable.f (k + 1) c = some (prn c) := by
  unfold utf_Printable.f prn
  rw [put_eq]
  simp only [Option.bind_some]
  by_cases h : isChar c = true
  · rw [if_pos h, h]
    simp only [if_true]
    by_cases h1 : c ≥ 32
    · rw [if_pos h1, decide_eq_true h1]
      by_cases h2 : c < 127
      · rw [if_pos h2, decide_eq_false (by omega)]
        rfl
      · rw [if_neg h2]
        by_cases h3 : c > 159
        · rw [decide_eq_true h3, decide_eq_false (by omega)]; rfl
        · rw [decide_eq_false h3, decide_eq_true (by omega)]; rfl
    · rw [if_neg h1, decide_eq_false h1]
      rfl
  · rw [if_neg h]
    have : isChar c = false := Bool.eq_false_iff.2 h
    rw [this]
    rfl


end Go.Proofs.YtmdeehblmkpddaaDoor.Hand
