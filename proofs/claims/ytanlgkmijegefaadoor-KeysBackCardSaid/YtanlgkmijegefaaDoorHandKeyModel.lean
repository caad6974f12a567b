/- What utf.Put, utf.Printable, keys.check answer, in closed form (plain Lean). -/
import Derived.Test.YtanlgkmijegefaaDoorPcheckx1
import Derived.Test.YtanlgkmijegefaaDoorHandBits
import Derived.Laws.BitsAllLaws
import Derived.Test.YtanlgkmijegefaaDoorHandPlain
import Derived.Test.YtanlgkmijegefaaDoorHandKeyOf
import Derived.Test.YtanlgkmijegefaaDoorHandKeyRd
namespace Go.Proofs.YtanlgkmijegefaaDoor.Hand
open Go.RowKit Go.Proofs.YtanlgkmijegefaaDoorW.PrintWords Go.Proofs.YtanlgkmijegefaaDoorW.PrintLast Go.Proofs.YtanlgkmijegefaaDoor.Pcheck
set_option linter.unusedVariables false
set_option linter.unusedSimpArgs false

def chk (a c : Int) : Int := if a < 0 ∨ 16 ≤ a then 9 else if a = 0 then (if prn c = true then 0 else 2) else if c = 0 then 0 else 2

theorem or_join (i : Nat) (x y : Int) (hx0 : 0 ≤ x) (hx : x < 256) (hy0 : 0 ≤ y) (hy : y.toNat < 2 ^ i) (hi : x.toNat % 2 ^ i = 0) (h : y < 256) : Go.bits .or .u8 x y = x + y := by
  rw [Go.u8_or x y hx0 hx hy0 h, Go.nat_join i _ _ hi hy]
  omega

theorem valid_eq (c : Int) (k : Nat) (h0 : 0 ≤ c) (h1 : c ≤ 1114111) : utf8_ValidRune.f (k + 1) c = some (isChar c) := by
  unfold utf8_ValidRune.f
  simp only [utf8_ValidRune.j0]
  rw [if_pos h0]
  by_cases h2 : c < 55296
  · rw [decide_eq_true h2, if_pos rfl]
    have : isChar c = true := (isChar_iff c).2 (by omega)
    rw [this]
  · rw [decide_eq_false h2, if_neg (by decide)]
    by_cases h3 : 57343 < c
    · rw [if_pos h3, if_pos h1]
      have : isChar c = true := (isChar_iff c).2 (by omega)
      rw [this]
    · rw [if_neg h3]
      have : isChar c = false := by
        rw [Bool.eq_false_iff]
        intro h
        have := (isChar_iff c).1 h
        omega
      rw [this]

theorem append_eq (c : Int) (k : Nat) (h : isChar c = true) : utf8_AppendRune.f (k + 1) [] c = some (enc c) := by
  have hc := (isChar_iff c).1 h
  have e32 : c % 4294967296 = c := by omega
  have e4 : Go.bits .or .u8 128 (Go.bits .and .u8 (c % 256) 63) = 128 + c % 64 := or128 c
  have e3 : Go.bits .or .u8 128 (Go.bits .and .u8 (c / 64 % 256) 63) = 128 + c / 64 % 64 := or128 (c / 64)
  have e2 : Go.bits .or .u8 128 (Go.bits .and .u8 (c / 4096 % 256) 63) = 128 + c / 4096 % 64 := or128 (c / 4096)
  unfold utf8_AppendRune.f enc
  rw [e32]
  by_cases h1 : c ≤ 127
  · rw [if_pos h1, if_pos (show c < 128 by omega)]
    have : c % 256 = c := by omega
    simp [this]
  · rw [if_neg h1, if_neg (show ¬ c < 128 by omega)]
    unfold utf8_appendRuneNonASCII.f
    rw [e32]
    simp only [utf8_appendRuneNonASCII.j0, Option.bind_some, List.length_nil, List.length_cons, List.nil_append, e2, e3, e4]
    by_cases h2 : c ≤ 2047
    · rw [if_pos h2, if_pos (by omega), if_pos (show c < 2048 by omega)]
      have e1 : Go.bits .or .u8 192 (c / 64 % 256) = 192 + c / 64 := by
        have : c / 64 % 256 = c / 64 := by omega
        rw [this]
        exact or_join 5 192 (c / 64) (by omega) (by omega) (by omega) (by omega) (by decide) (by omega)
      rw [e1]
      rfl
    · rw [if_neg h2, if_neg (show ¬ c < 2048 by omega)]
      have f1 : c < 65536 → Go.bits .or .u8 224 (c / 4096 % 256) = 224 + c / 4096 := by
        intro hlt
        have : c / 4096 % 256 = c / 4096 := by omega
        rw [this]
        exact or_join 4 224 (c / 4096) (by omega) (by omega) (by omega) (by omega) (by decide) (by omega)
      by_cases h3 : c < 55296
      · rw [if_pos h3, decide_eq_true h3, if_pos rfl, if_pos (by omega), if_pos (show c < 65536 by omega), f1 (by omega)]
        rfl
      · rw [if_neg h3, if_pos (show 57343 < c by omega)]
        by_cases h4 : c ≤ 65535
        · rw [decide_eq_true h4, if_pos rfl, if_pos (by omega), if_pos (show c < 65536 by omega), f1 (by omega)]
          rfl
        · rw [decide_eq_false h4, if_neg (by decide), if_pos (show c > 65535 by omega), if_pos hc.2.1, if_pos (by omega), if_neg (show ¬ c < 65536 by omega)]
          have e1 : Go.bits .or .u8 240 (c / 262144 % 256) = 240 + c / 262144 := by
            have : c / 262144 % 256 = c / 262144 := by omega
            rw [this]
            exact or_join 3 240 (c / 262144) (by omega) (by omega) (by omega) (by omega) (by decide) (by omega)
          rw [e1]
          rfl

theorem put_eq (c : Int) (k : Nat) : utf_Put.f (k + 1) c = some (if isChar c = true then (enc c, 0) else ([], 3)) := by
  unfold utf_Put.f
  by_cases h0 : c < 0
  · rw [if_pos h0, if_neg]
    intro h
    have := (isChar_iff c).1 h
    omega
  · rw [if_neg h0]
    by_cases h1 : c > 1114111
    · rw [if_pos h1, if_neg]
      intro h
      have := (isChar_iff c).1 h
      omega
    · rw [if_neg h1]
      have e : wrap32 c = c := by unfold wrap32; omega
      rw [e, valid_eq c k (by omega) (by omega)]
      simp only [Option.bind_some]
      by_cases h2 : isChar c = true
      · rw [if_pos h2, if_pos h2, append_eq c k h2]
        rfl
      · rw [if_neg h2, if_neg h2]

theorem prn_eq (c : Int) (k : Nat) : utf_Printable.f (k + 1) c = some (prn c) := by
  unfold utf_Printable.f prn
  rw [put_eq]
  simp only [Option.bind_some]
  by_cases h : isChar c = true
  · rw [if_pos h, h]
    simp only [if_true]
    by_cases h1 : c ≥ 32
    · rw [if_pos h1, decide_eq_true h1]
      by_cases h2 : c < 127
      · rw [if_pos h2, decide_eq_false (by omega)]
        rfl
      · rw [if_neg h2]
        by_cases h3 : c > 159
        · rw [decide_eq_true h3, decide_eq_false (by omega)]; rfl
        · rw [decide_eq_false h3, decide_eq_true (by omega)]; rfl
    · rw [if_neg h1, decide_eq_false h1]
      rfl
  · rw [if_neg h]
    have : isChar c = false := Bool.eq_false_iff.2 h
    rw [this]
    rfl

theorem chk_eq (a c : Int) (k : Nat) : keys_check.f (k + 2) a c = some (chk a c) := by
  have j1 (b : Bool) (x y : Int) : keys_check.j1 (k + 1) b x y = (if b = true then (some 2) else (if x = 0 then (some 0) else (if y = 0 then (some 0) else (some 2)))) := rfl
  have j0 (b : Bool) (x y : Int) : keys_check.j0 (k + 2) b x y = (if b = true then (some 9) else (if x = 0 then ((utf_Printable.f (k + 1) y).bind fun t146 => (keys_check.j1 (k + 1) (!t146) x y)) else (keys_check.j1 (k + 1) false x y))) := rfl
  unfold keys_check.f
  by_cases h0 : a < 0
  · have : chk a c = 9 := by unfold chk; rw [if_pos (by omega)]
    rw [if_pos h0, this, j0, if_pos rfl]
  · rw [if_neg h0]
    by_cases h1 : a ≥ 16
    · have : chk a c = 9 := by unfold chk; rw [if_pos (by omega)]
      rw [decide_eq_true h1, this, j0, if_pos rfl]
    · rw [decide_eq_false h1, j0, if_neg (by decide)]
      by_cases h2 : a = 0
      · have : chk a c = if prn c = true then 0 else 2 := by unfold chk; rw [if_neg (by omega), if_pos h2]
        rw [if_pos h2, prn_eq, this]
        simp only [Option.bind_some]
        rw [j1]
        cases prn c
        · rfl
        · rw [if_neg (by decide), if_pos h2]; rfl
      · have : chk a c = if c = 0 then 0 else 2 := by unfold chk; rw [if_neg (by omega), if_neg h2]
        rw [if_neg h2, j1, if_neg (by decide), if_neg h2, this]
        by_cases h3 : c = 0
        · rw [if_pos h3, if_pos h3]
        · rw [if_neg h3, if_neg h3]

end Go.Proofs.YtanlgkmijegefaaDoor.Hand

namespace Go.Proofs.YtanlgkmijegefaaDoor.Hand
open Go.RowKit Go.Proofs.YtanlgkmijegefaaDoorW.PrintWords Go.Proofs.YtanlgkmijegefaaDoorW.PrintLast Go.Proofs.YtanlgkmijegefaaDoor.Pcheck
set_option linter.unusedVariables false
set_option linter.unusedSimpArgs false

def kindOf (c : Int) : Int := (charKind c).getD 15
theorem kindOf_range (c : Int) : 1 ≤ kindOf c ∧ kindOf c < 16 := by
  unfold kindOf charKind
  cases h : insL.find? (fun t => t.2.1 == c) with
  | none => simp
  | some t =>
    have hm := List.mem_of_find?_eq_some h
    have key : ∀ t ∈ insL, 1 ≤ t.2.2 ∧ t.2.2 < 16 := by decide
    simpa using key t hm
theorem of_eq (c : Int) (k : Nat) (hw : (Lit.int .i64 c).wf = true) : keys_Of.f (k + 1) c = some (if prn c = true then (0, c) else (kindOf c, 0)) := by
  unfold keys_Of.f
  rw [if_pos hw, prn_eq]
  simp only [Option.bind_some]
  cases prn c
  · rfl
  · rfl
theorem chk0 (a c : Int) : chk a c = 0 ↔ (a = 0 ∧ prn c = true) ∨ (1 ≤ a ∧ a < 16 ∧ c = 0) := by
  unfold chk
  by_cases h0 : a < 0 ∨ 16 ≤ a
  · rw [if_pos h0]; constructor
    · intro h; omega
    · rintro (⟨h, _⟩ | h) <;> omega
  · rw [if_neg h0]
    by_cases h1 : a = 0
    · rw [if_pos h1]
      by_cases h2 : prn c = true
      · rw [if_pos h2]; simp [h1, h2]
      · rw [if_neg h2]; simp [h1, h2]
    · rw [if_neg h1]
      by_cases h2 : c = 0
      · rw [if_pos h2]; simp [h2]; omega
      · rw [if_neg h2]; simp [h2, h1]
theorem bytes_eq (a c : Int) (k : Nat) : keys_Bytes.f (k + 2) a c = some (if chk a c = 0 then (if a = 0 then (enc c, 0) else (bytesOf a, 0)) else ([], chk a c)) := by
  unfold keys_Bytes.f
  rw [chk_eq]
  simp only [Option.bind_some]
  by_cases h : chk a c = 0
  · rw [if_pos h, if_pos h]
    by_cases h1 : a = 0
    · rw [if_pos h1, if_pos h1, put_eq]
      have : isChar c = true := by
        rcases (chk0 a c).1 h with ⟨_, h2⟩ | h2
        · exact prn_char c h2
        · omega
      rw [if_pos this]
    · rw [if_neg h1, if_neg h1]
  · rw [if_neg h, if_neg h]
def textOf (a c : Int) : ByteArray := if a = 0 then nameB 0 ++ ⟨#[32]⟩ ++ ⟨(Lib.itoa c).toArray⟩ else nameB a.toNat
theorem text_eq (a c : Int) (k : Nat) (hw : (Lit.int .i64 c).wf = true) : keys_Text.f (k + 2) a c = some (if chk a c = 0 then (textOf a c, 0) else (⟨#[]⟩, chk a c)) := by
  unfold keys_Text.f textOf
  rw [if_pos hw, chk_eq]
  simp only [Option.bind_some]
  by_cases h : chk a c = 0
  · rw [if_pos h, if_pos h]
    by_cases h1 : a = 0
    · rw [if_pos h1, if_pos h1]
    · rw [if_neg h1, if_neg h1, if_pos]
      rcases (chk0 a c).1 h with ⟨h2, _⟩ | h2 <;> omega
  · rw [if_neg h, if_neg h]

/-- What keys.Read reads, before it asks for its text. -/
def rdKind (s : ByteArray) : Int := Lib.idxOfS (namesBA.take 16) ⟨(Lib.cut s.data.toList [32]).1.toArray⟩
def rdChar (s : ByteArray) : Int := if (Lib.cut s.data.toList [32]).2.2 = true then atoiV (Lib.cut s.data.toList [32]).2.1 else 0
def readL (s : ByteArray) : Int × Int × Int := if chk (rdKind s) (rdChar s) = 0 ∧ textOf (rdKind s) (rdChar s) = s then (rdKind s, rdChar s, 0) else (0, 0, 8)
theorem Lib_atoi_range {l : List UInt8} {v : Int} (h : Lib.atoiAll l = .ok v) : -9223372036854775808 ≤ v ∧ v ≤ 9223372036854775807 := by
  cases l with
  | nil => simp [Lib.atoiAll] at h
  | cons c r =>
    simp only [Lib.atoiAll] at h
    cases h2 : Lib.parseMag (if c.toNat = 43 ∨ c.toNat = 45 then r else c :: r)
    case ok u =>
      rw [h2] at h
      simp only at h
      by_cases hn : c.toNat = 45
      · by_cases hb : 9223372036854775808 < u
        · rw [if_neg (by simp [hn]), if_pos ⟨hn, hb⟩] at h; cases h
        · rw [if_neg (by simp [hn]), if_neg (fun x => hb x.2), if_pos hn] at h
          injection h with h
          omega
      · by_cases hb : 9223372036854775808 ≤ u
        · rw [if_pos ⟨hn, hb⟩] at h; cases h
        · rw [if_neg (fun x => hb x.2), if_neg (fun x => hn x.1), if_neg hn] at h
          injection h with h
          omega
    all_goals (rw [h2] at h; cases h)
theorem atoiV_wf (l : List UInt8) : (Lit.int .i64 (atoiV l)).wf = true := by
  have e1 : IntKind.i64.min = -9223372036854775808 := by decide
  have e2 : IntKind.i64.max = 9223372036854775807 := by decide
  have mk : ∀ n : Int, -9223372036854775808 ≤ n → n ≤ 9223372036854775807 → (Lit.int .i64 n).wf = true := by
    intro n h1 h2
    show (decide (IntKind.i64.min ≤ n) && decide (n ≤ IntKind.i64.max)) = true
    rw [e1, e2]
    simp [h1, h2]
  unfold atoiV
  cases h : Lib.atoiAll l
  case range =>
    simp only
    unfold Lib.atoiSat
    split
    · exact mk _ (by omega) (by omega)
    · exact mk _ (by omega) (by omega)
  case ok v =>
    simp only
    exact mk v (Lib_atoi_range h).1 (Lib_atoi_range h).2
  all_goals exact mk 0 (by omega) (by omega)
theorem read_eq (s : ByteArray) (k : Nat) (hs : s.size < 4294967281) : keys_Read.f (k + 2) s = some (readL s) := by
  unfold keys_Read.f readL
  rw [if_pos hs]
  have hc : (Lit.int .i64 (rdChar s)).wf = true := by
    unfold rdChar
    split
    · exact atoiV_wf _
    · decide
  show (keys_Text.f (k + 2) (rdKind s) (rdChar s)).bind (fun t => if t.2 = 0 then (if t.1 = s then some (rdKind s, rdChar s, 0) else some (0, 0, 8)) else some (0, 0, 8)) = _
  rw [text_eq _ _ _ hc]
  simp only [Option.bind_some]
  by_cases h : chk (rdKind s) (rdChar s) = 0
  · by_cases h1 : textOf (rdKind s) (rdChar s) = s
    · simp [h, h1]
    · simp [h, h1]
  · simp [h]

end Go.Proofs.YtanlgkmijegefaaDoor.Hand
