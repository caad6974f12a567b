/- KeysUnlike: two keys that may be have the same text just if they are the same; so have what they are told by. -/
import Derived.Test.YtanlgkmijegefaaDoorPKeysUnlikex3
import Derived.Test.YtanlgkmijegefaaDoorHandKeyModel2
namespace Go.Proofs.YtanlgkmijegefaaDoor.Pure
open Go.RowKit Go.Proofs.YtanlgkmijegefaaDoor.PKeysUnlike Go.Proofs.YtanlgkmijegefaaDoor.Hand Go.Proofs.YtanlgkmijegefaaDoorW.PrintWords Go.Proofs.YtanlgkmijegefaaDoorW.PrintLast
set_option linter.unusedVariables false
set_option linter.unusedSimpArgs false

theorem alive_unlike (k : Nat) : whispererlaw08_alive.f (k + 5) = some true := by
  unfold whispererlaw08_alive.f
  rw [show k + 5 = (k + 3) + 2 from rfl, bytes_eq, read_eq _ _ (by decide), of_eq _ _ (by decide)]
  have h1 : chk 3 0 = 0 := by decide +kernel
  have h2 : readL (⟨#[114, 117, 110, 101, 32, 54, 53]⟩ : ByteArray) = (0, 65, 0) := by decide +kernel
  have h3 : prn 21 = false := by decide +kernel
  have h4 : kindOf 21 = 8 := by decide +kernel
  rw [h1, h2, h3, h4]
  have h5 : (strOfNums (bytesOf 3)).toList = ([27, 91, 51, 126] : List UInt8) := by decide +kernel
  simp [h5]

theorem text0 (c : Int) : (textOf 0 c).data.toList = [114, 117, 110, 101, 32] ++ Lib.itoa c := by
  unfold textOf
  rw [if_pos rfl, ba_app, ba_app]
  rfl
theorem text0_blank (c : Int) : (32 : UInt8) ∈ (textOf 0 c).data.toList := by
  rw [text0]
  simp
theorem name_blank : ∀ j : Nat, j < 16 → (32 : UInt8) ∉ (nameB j).data.toList := by decide +kernel
theorem name_inj : ∀ i : Nat, i < 16 → ∀ j : Nat, j < 16 → (nameB i).data.toList = (nameB j).data.toList → i = j := by decide +kernel
theorem text_other_eq (a c : Int) (h : a ≠ 0) : textOf a c = nameB a.toNat := by unfold textOf; rw [if_neg h]
theorem text_iff {a b c d : Int} (h1 : chk a b = 0) (h2 : chk c d = 0) : textOf a b = textOf c d ↔ a = c ∧ b = d := by
  constructor
  · intro h
    rcases (chk0 a b).1 h1 with ⟨rfl, hb⟩ | ha <;> rcases (chk0 c d).1 h2 with ⟨rfl, hd⟩ | hc
    · have e : [114, 117, 110, 101, 32] ++ Lib.itoa b = [114, 117, 110, 101, 32] ++ Lib.itoa d := by rw [← text0, ← text0, h]
      have p1 := (prn_iff b).1 hb
      have p2 := (prn_iff d).1 hd
      exact ⟨rfl, itoa_inj (by omega) (by omega) (List.append_cancel_left e)⟩
    · exfalso
      have := text0_blank b
      rw [h, text_other_eq c d (by omega)] at this
      exact name_blank c.toNat (by omega) this
    · exfalso
      have := text0_blank d
      rw [← h, text_other_eq a b (by omega)] at this
      exact name_blank a.toNat (by omega) this
    · rw [text_other_eq a b (by omega), text_other_eq c d (by omega)] at h
      have := name_inj a.toNat (by omega) c.toNat (by omega) (by rw [h])
      exact ⟨by omega, by omega⟩
  · rintro ⟨rfl, rfl⟩
    rfl

/-- What a key that may be is told by. -/
def toldL (a c : Int) : List Int := if a = 0 then enc c else bytesOf a
theorem told_form : ∀ j : Nat, j < 16 → 1 ≤ j → ∃ x r, bytesOf j = x :: r ∧ (x < 32 ∨ x = 127) ∧ (∀ y ∈ bytesOf j, 0 ≤ y ∧ y ≤ 255) := by
  have h : ∀ j : Nat, j < 16 → 1 ≤ j → (bytesOf j).length ≠ 0 ∧ ((bytesOf j).headD 0 < 32 ∨ (bytesOf j).headD 0 = 127) ∧ (∀ y ∈ bytesOf j, 0 ≤ y ∧ y ≤ 255) := by decide +kernel
  intro j h1 h2
  obtain ⟨a, b, c⟩ := h j h1 h2
  cases hb : bytesOf j with
  | nil => rw [hb] at a; exact absurd rfl a
  | cons x r =>
    rw [hb] at b c
    exact ⟨x, r, rfl, b, c⟩
theorem told_inj : ∀ i : Nat, i < 16 → 1 ≤ i → ∀ j : Nat, j < 16 → 1 ≤ j → bytesOf i = bytesOf j → i = j := by decide +kernel
theorem told_bytes {a b : Int} (h : chk a b = 0) : ∀ x ∈ toldL a b, 0 ≤ x ∧ x ≤ 255 := by
  unfold toldL
  rcases (chk0 a b).1 h with ⟨rfl, hb⟩ | ha
  · have := (prn_iff b).1 hb
    rw [if_pos rfl]
    exact enc_byte b (by omega) (by omega)
  · rw [if_neg (by omega)]
    obtain ⟨j, rfl⟩ : ∃ j : Nat, a = j := ⟨a.toNat, by omega⟩
    obtain ⟨x, r, _, _, h3⟩ := told_form j (by omega) (by omega)
    exact h3
theorem told_ne {b c : Int} (hb : prn b = true) (hc : 1 ≤ c ∧ c < 16) : enc b ≠ bytesOf c := by
  intro h
  have p := (prn_iff b).1 hb
  obtain ⟨j, rfl⟩ : ∃ j : Nat, c = j := ⟨c.toNat, by omega⟩
  obtain ⟨x, r, h1, h2, _⟩ := told_form j (by omega) (by omega)
  obtain ⟨y, s, e1, e2, e3, _⟩ := enc_head b (by omega) (by omega)
  rw [h1, e1] at h
  injection h with h
  rcases Int.lt_or_le b 128 with hlt | hge
  · have := e2 hlt; omega
  · have := e3 hge; omega
theorem told_iff {a b c d : Int} (h1 : chk a b = 0) (h2 : chk c d = 0) : strOfNums (toldL a b) = strOfNums (toldL c d) ↔ a = c ∧ b = d := by
  constructor
  · intro h
    have h := nums_inj (told_bytes h1) (told_bytes h2) h
    unfold toldL at h
    rcases (chk0 a b).1 h1 with ⟨rfl, hb⟩ | ha <;> rcases (chk0 c d).1 h2 with ⟨rfl, hd⟩ | hc
    · rw [if_pos rfl, if_pos rfl] at h
      have p1 := (prn_iff b).1 hb
      have p2 := (prn_iff d).1 hd
      exact ⟨rfl, enc_inj (by omega) (by omega) h⟩
    · rw [if_pos rfl, if_neg (by omega)] at h
      exact absurd h (told_ne hb ⟨hc.1, hc.2.1⟩)
    · rw [if_pos rfl, if_neg (by omega)] at h
      exact absurd h.symm (told_ne hd ⟨ha.1, ha.2.1⟩)
    · rw [if_neg (by omega), if_neg (by omega)] at h
      obtain ⟨i, rfl⟩ : ∃ i : Nat, a = i := ⟨a.toNat, by omega⟩
      obtain ⟨j, rfl⟩ : ∃ j : Nat, c = j := ⟨c.toNat, by omega⟩
      have := told_inj i (by omega) (by omega) j (by omega) (by omega) h
      exact ⟨by omega, by omega⟩
  · rintro ⟨rfl, rfl⟩
    rfl

theorem KeysUnlike (a b c d : Int) (hb : (Lit.int .i64 b).wf = true) (hd : (Lit.int .i64 d).wf = true) : whispererlaw08_KeysUnlike.f 10 a b c d = some true := by
  unfold whispererlaw08_KeysUnlike.f
  rw [text_eq a b 8 hb, text_eq c d 8 hd]
  simp only [Option.bind_some]
  have jt (s t : ByteArray) : whispererlaw08_KeysUnlike.j0 10 s t true a b c d = some true := by
    simp only [whispererlaw08_KeysUnlike.j0]
    rw [alive_unlike 4]
    rfl
  by_cases h1 : chk a b = 0
  · rw [if_pos h1, if_pos rfl]
    by_cases h2 : chk c d = 0
    · rw [if_pos h2]
      have e0 : ((0 : Int) != 0) = false := rfl
      simp only [e0, whispererlaw08_KeysUnlike.j0]
      rw [if_neg (by decide), bytes_eq a b 7, bytes_eq c d 7, alive_unlike 4, if_pos h1, if_pos h2]
      have t1 : (if a = 0 then (enc b, (0 : Int)) else (bytesOf a, 0)) = (toldL a b, 0) := by unfold toldL; split <;> rfl
      have t2 : (if c = 0 then (enc d, (0 : Int)) else (bytesOf c, 0)) = (toldL c d, 0) := by unfold toldL; split <;> rfl
      rw [t1, t2]
      simp only [Option.bind_some]
      simp only [if_true]
      rw [ba_beq, ba_beq]
      have e1 : decide (textOf a b = textOf c d) = (a == c && b == d) := by
        rw [Bool.eq_iff_iff]
        simp [text_iff h1 h2]
      have e2 : decide (strOfNums (toldL a b) = strOfNums (toldL c d)) = (a == c && b == d) := by
        rw [Bool.eq_iff_iff]
        simp [told_iff h1 h2]
      rw [e1, e2]
      simp
    · rw [if_neg h2]
      have : (chk c d != 0) = true := by simpa using h2
      simp only [this]
      exact jt _ _
  · rw [if_neg h1, if_neg h1]
    exact jt _ _

end Go.Proofs.YtanlgkmijegefaaDoor.Pure
