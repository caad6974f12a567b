/- What keys.Of, keys.Bytes, keys.Text, keys.Read answer, in closed form (plain Lean). -/
import Derived.Test.YtanlgkmijegefaaDoorHandKeyModel
import Derived.Test.YtanlgkmijegefaaDoorHandKeyRd
namespace Go.Proofs.YtanlgkmijegefaaDoor.Hand
open Go.RowKit Go.Proofs.YtanlgkmijegefaaDoorW.PrintWords Go.Proofs.YtanlgkmijegefaaDoorW.PrintLast Go.Proofs.YtanlgkmijegefaaDoor.Pcheck
set_option linter.unusedVariables false
set_option linter.unusedSimpArgs false

def kindOf (c : Int) : Int := (charKind c).getD 15
theorem kindOf_range (c : Int) : 1 ≤ kindOf c ∧ kindOf c < 16 := by
  unfold kindOf charKind
  cases h : insL.find? (fun t => t.2.1 == c) with
  | none => simp
  | some t =>
    have hm := List.mem_of_find?_eq_some h
    have key : ∀ t ∈ insL, 1 ≤ t.2.2 ∧ t.2.2 < 16 := by decide
    simpa using key t hm
theorem of_eq (c : Int) (k : Nat) (hw : (Lit.int .i64 c).wf = true) : keys_Of.f (k + 1) c = some (if prn c = true then (0, c) else (kindOf c, 0)) := by
  unfold keys_Of.f
  rw [if_pos hw, prn_eq]
  simp only [Option.bind_some]
  cases prn c
  · rfl
  · rfl
theorem chk0 (a c : Int) : chk a c = 0 ↔ (a = 0 ∧ prn c = true) ∨ (1 ≤ a ∧ a < 16 ∧ c = 0) := by
  unfold chk
  by_cases h0 : a < 0 ∨ 16 ≤ a
  · rw [if_pos h0]; constructor
    · intro h; omega
    · rintro (⟨h, _⟩ | h) <;> omega
  · rw [if_neg h0]
    by_cases h1 : a = 0
    · rw [if_pos h1]
      by_cases h2 : prn c = true
      · rw [if_pos h2]; simp [h1, h2]
      · rw [if_neg h2]; simp [h1, h2]
    · rw [if_neg h1]
      by_cases h2 : c = 0
      · rw [if_pos h2]; simp [h2]; omega
      · rw [if_neg h2]; simp [h2, h1]
theorem bytes_eq (a c : Int) (k : Nat) : keys_Bytes.f (k + 2) a c = some (if chk a c = 0 then (if a = 0 then (enc c, 0) else (bytesOf a, 0)) else ([], chk a c)) := by
  unfold keys_Bytes.f
  rw [chk_eq]
  simp only [Option.bind_some]
  by_cases h : chk a c = 0
  · rw [if_pos h, if_pos h]
    by_cases h1 : a = 0
    · rw [if_pos h1, if_pos h1, put_eq]
      have : isChar c = true := by
        rcases (chk0 a c).1 h with ⟨_, h2⟩ | h2
        · exact prn_char c h2
        · omega
      rw [if_pos this]
    · rw [if_neg h1, if_neg h1]
  · rw [if_neg h, if_neg h]
def textOf (a c : Int) : ByteArray := if a = 0 then nameB 0 ++ ⟨#[32]⟩ ++ ⟨(Lib.itoa c).toArray⟩ else nameB a.toNat
theorem text_eq (a c : Int) (k : Nat) (hw : (Lit.int .i64 c).wf = true) : keys_Text.f (k + 2) a c = some (if chk a c = 0 then (textOf a c, 0) else (⟨#[]⟩, chk a c)) := by
  unfold keys_Text.f textOf
  rw [if_pos hw, chk_eq]
  simp only [Option.bind_some]
  by_cases h : chk a c = 0
  · rw [if_pos h, if_pos h]
    by_cases h1 : a = 0
    · rw [if_pos h1, if_pos h1]
    · rw [if_neg h1, if_neg h1, if_pos]
      rcases (chk0 a c).1 h with ⟨h2, _⟩ | h2 <;> omega
  · rw [if_neg h, if_neg h]

/-- What keys.Read reads, before it asks for its text. -/
def rdKind (s : ByteArray) : Int := Lib.idxOfS (namesBA.take 16) ⟨(Lib.cut s.data.toList [32]).1.toArray⟩
def rdChar (s : ByteArray) : Int := if (Lib.cut s.data.toList [32]).2.2 = true then atoiV (Lib.cut s.data.toList [32]).2.1 else 0
def readL (s : ByteArray) : Int × Int × Int := if chk (rdKind s) (rdChar s) = 0 ∧ textOf (rdKind s) (rdChar s) = s then (rdKind s, rdChar s, 0) else (0, 0, 8)
theorem Lib_atoi_range {l : List UInt8} {v : Int} (h : Lib.atoiAll l = .ok v) : -9223372036854775808 ≤ v ∧ v ≤ 9223372036854775807 := by
  cases l with
  | nil => simp [Lib.atoiAll] at h
  | cons c r =>
    simp only [Lib.atoiAll] at h
    cases h2 : Lib.parseMag (if c.toNat = 43 ∨ c.toNat = 45 then r else c :: r)
    case ok u =>
      rw [h2] at h
      simp only at h
      by_cases hn : c.toNat = 45
      · by_cases hb : 9223372036854775808 < u
        · rw [if_neg (by simp [hn]), if_pos ⟨hn, hb⟩] at h; cases h
        · rw [if_neg (by simp [hn]), if_neg (fun x => hb x.2), if_pos hn] at h
          injection h with h
          omega
      · by_cases hb : 9223372036854775808 ≤ u
        · rw [if_pos ⟨hn, hb⟩] at h; cases h
        · rw [if_neg (fun x => hb x.2), if_neg (fun x => hn x.1), if_neg hn] at h
          injection h with h
          omega
    all_goals (rw [h2] at h; cases h)
theorem atoiV_wf (l : List UInt8) : (Lit.int .i64 (atoiV l)).wf = true := by
  have e1 : IntKind.i64.min = -9223372036854775808 := by decide
  have e2 : IntKind.i64.max = 9223372036854775807 := by decide
  have mk : ∀ n : Int, -9223372036854775808 ≤ n → n ≤ 9223372036854775807 → (Lit.int .i64 n).wf = true := by
    intro n h1 h2
    show (decide (IntKind.i64.min ≤ n) && decide (n ≤ IntKind.i64.max)) = true
    rw [e1, e2]
    simp [h1, h2]
  unfold atoiV
  cases h : Lib.atoiAll l
  case range =>
    simp only
    unfold Lib.atoiSat
    split
    · exact mk _ (by omega) (by omega)
    · exact mk _ (by omega) (by omega)
  case ok v =>
    simp only
    exact mk v (Lib_atoi_range h).1 (Lib_atoi_range h).2
  all_goals exact mk 0 (by omega) (by omega)
theorem read_eq (s : ByteArray) (k : Nat) (hs : s.size < 4294967281) : keys_Read.f (k + 2) s = some (readL s) := by
  unfold keys_Read.f readL
  rw [if_pos hs]
  have hc : (Lit.int .i64 (rdChar s)).wf = true := by
    unfold rdChar
    split
    · exact atoiV_wf _
    · decide
  show (keys_Text.f (k + 2) (rdKind s) (rdChar s)).bind (fun t => if t.2 = 0 then (if t.1 = s then some (rdKind s, rdChar s, 0) else some (0, 0, 8)) else some (0, 0, 8)) = _
  rw [text_eq _ _ _ hc]
  simp only [Option.bind_some]
  by_cases h : chk (rdKind s) (rdChar s) = 0
  · by_cases h1 : textOf (rdKind s) (rdChar s) = s
    · simp [h, h1]
    · simp [h, h1]
  · simp [h]

end Go.Proofs.YtanlgkmijegefaaDoor.Hand
