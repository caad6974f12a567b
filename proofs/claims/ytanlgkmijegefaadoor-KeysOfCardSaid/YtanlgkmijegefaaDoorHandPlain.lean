/- Plain Lean of no program: decimal numerals, strings of bytes, characters in bytes. -/
import Derived.Lib.ItoaNum
import Derived.Lib.ItoaMem
import Derived.Laws.Strings
import Derived.Laws.BytesArg
import Derived.WideShapes
import Derived.WalkKit
namespace Go.Proofs.YtanlgkmijegefaaDoor.Hand
open Go.RowKit
set_option linter.unusedVariables false
set_option linter.unusedSimpArgs false

/-! decimal numerals -/
def decVal (l : List UInt8) : Nat := l.foldl (fun a c => a * 10 + (c.toNat - 48)) 0
theorem dig_val {d : Nat} (h : d < 10) : (UInt8.ofNat (48 + d)).toNat - 48 = d := by
  simp
  omega
theorem decVal_snoc (l : List UInt8) (c : UInt8) : decVal (l ++ [c]) = decVal l * 10 + (c.toNat - 48) := by
  unfold decVal
  rw [List.foldl_append]
  rfl
theorem decVal_digits (u : Nat) : decVal (Lib.decDigits u) = u := by
  induction u using Nat.strongRecOn with
  | _ u ih =>
    rw [Lib.decDigits]
    by_cases h : u < 10
    · rw [dif_pos h]
      show 0 * 10 + _ = u
      rw [dig_val h]
      omega
    · rw [dif_neg h, decVal_snoc, ih (u / 10) (by omega), dig_val (by omega)]
      omega
theorem decDigits_inj {u v : Nat} (h : Lib.decDigits u = Lib.decDigits v) : u = v := by
  rw [← decVal_digits u, ← decVal_digits v, h]
theorem dec_digit (u : Nat) : ∀ c ∈ Lib.decDigits u, 48 ≤ c.toNat ∧ c.toNat ≤ 57 := by
  induction u using Nat.strongRecOn with
  | _ u ih =>
    rw [Lib.decDigits]
    by_cases h : u < 10
    · rw [dif_pos h]
      intro c hc
      obtain rfl := List.mem_singleton.1 hc
      simp
      omega
    · rw [dif_neg h]
      intro c hc
      rcases List.mem_append.1 hc with hc | hc
      · exact ih (u / 10) (by omega) c hc
      · obtain rfl := List.mem_singleton.1 hc
        simp
        omega
theorem decDigits_ne (u : Nat) : Lib.decDigits u ≠ [] := by
  rw [Lib.decDigits]
  split <;> simp
theorem itoa_nat {n : Int} (h : 0 ≤ n) : Lib.itoa n = Lib.decDigits n.toNat := by
  unfold Lib.itoa
  rw [if_neg (by omega)]
theorem itoa_inj {m n : Int} (hm : 0 ≤ m) (hn : 0 ≤ n) (h : Lib.itoa m = Lib.itoa n) : m = n := by
  rw [itoa_nat hm, itoa_nat hn] at h
  have := decDigits_inj h
  omega

/-! strings out of lists -/
theorem ba_inj {l m : List UInt8} (h : (⟨l.toArray⟩ : ByteArray) = ⟨m.toArray⟩) : l = m := by
  have := congrArg (fun b : ByteArray => b.data.toList) h
  simpa using this
theorem ba_eta (b : ByteArray) : b = ⟨b.data.toList.toArray⟩ := by rfl
theorem ba_app (a b : ByteArray) : (a ++ b).data.toList = a.data.toList ++ b.data.toList := by simp
theorem ba_ext {a b : ByteArray} (h : a.data.toList = b.data.toList) : a = b := Go.WideShapes.bytes_inj h
theorem ba_beq (a b : ByteArray) : (a.toList == b.toList) = decide (a = b) := by
  rw [ByteArray.toList_eq, ByteArray.toList_eq]
  by_cases h : a = b
  · subst h; simp
  · rw [decide_eq_false h, beq_eq_false_iff_ne]
    intro e
    exact h (ba_ext e)
theorem nums_inj' {l m : List Int} (hl : ∀ x ∈ l, 0 ≤ x ∧ x ≤ 255) (hm : ∀ x ∈ m, 0 ≤ x ∧ x ≤ 255) (h : l.map (fun n => UInt8.ofNat n.toNat) = m.map (fun n => UInt8.ofNat n.toNat)) : l = m := by
  induction l generalizing m with
  | nil =>
    cases m with
    | nil => rfl
    | cons a r => simp at h
  | cons a r ih =>
    cases m with
    | nil => simp at h
    | cons b s =>
      simp only [List.map_cons, List.cons.injEq] at h
      have h1 := hl a (by simp)
      have h2 := hm b (by simp)
      have e : a = b := by
        have := congrArg UInt8.toNat h.1
        simp at this
        omega
      rw [e, ih (fun x hx => hl x (by simp [hx])) (fun x hx => hm x (by simp [hx])) h.2]
theorem nums_inj {l m : List Int} (hl : ∀ x ∈ l, 0 ≤ x ∧ x ≤ 255) (hm : ∀ x ∈ m, 0 ≤ x ∧ x ≤ 255) (h : strOfNums l = strOfNums m) : l = m := nums_inj' hl hm (ba_inj h)

/-! characters in bytes -/
def isChar (c : Int) : Bool := decide (0 ≤ c ∧ c ≤ 1114111) && !decide (55296 ≤ c ∧ c ≤ 57343)
def enc (c : Int) : List Int :=
  if c < 128 then [c] else if c < 2048 then [192 + c / 64, 128 + c % 64] else if c < 65536 then [224 + c / 4096, 128 + c / 64 % 64, 128 + c % 64]
  else [240 + c / 262144, 128 + c / 4096 % 64, 128 + c / 64 % 64, 128 + c % 64]
def prn (c : Int) : Bool := isChar c && decide (32 ≤ c) && !decide (127 ≤ c ∧ c ≤ 159)
theorem isChar_iff (c : Int) : isChar c = true ↔ 0 ≤ c ∧ c ≤ 1114111 ∧ ¬ (55296 ≤ c ∧ c ≤ 57343) := by
  unfold isChar
  simp only [Bool.and_eq_true, decide_eq_true_eq, Bool.not_eq_true', decide_eq_false_iff_not, and_assoc]
theorem prn_iff (c : Int) : prn c = true ↔ 32 ≤ c ∧ c ≤ 1114111 ∧ ¬ (55296 ≤ c ∧ c ≤ 57343) ∧ ¬ (127 ≤ c ∧ c ≤ 159) := by
  unfold prn
  simp only [Bool.and_eq_true, isChar_iff, decide_eq_true_eq, Bool.not_eq_true', decide_eq_false_iff_not]
  omega
theorem prn_char (c : Int) (h : prn c = true) : isChar c = true := (isChar_iff c).2 (by have := (prn_iff c).1 h; omega)
theorem enc_byte (c : Int) (h0 : 0 ≤ c) (h1 : c ≤ 1114111) : ∀ x ∈ enc c, 0 ≤ x ∧ x ≤ 255 := by
  unfold enc
  intro x hx
  split at hx
  · simp at hx; omega
  · split at hx
    · simp at hx; omega
    · split at hx
      · simp at hx; omega
      · simp at hx; omega
theorem enc_inj {c d : Int} (h0 : 0 ≤ c) (h1 : 0 ≤ d) (h : enc c = enc d) : c = d := by
  by_cases c1 : c < 128 <;> by_cases c2 : c < 2048 <;> by_cases c3 : c < 65536 <;> by_cases d1 : d < 128 <;> by_cases d2 : d < 2048 <;> by_cases d3 : d < 65536 <;>
    first
    | (exfalso; omega)
    | (simp [enc, c1, c2, c3, d1, d2, d3] at h; done)
    | (simp [enc, c1, c2, c3, d1, d2, d3] at h; omega)
theorem enc_head (c : Int) (h0 : 0 ≤ c) (h1 : c ≤ 1114111) : ∃ x r, enc c = x :: r ∧ (c < 128 → x = c) ∧ (128 ≤ c → 194 ≤ x ∧ x ≤ 244) ∧ r.length ≤ 3 := by
  unfold enc
  split
  · exact ⟨c, [], rfl, fun _ => rfl, fun h => by omega, by simp⟩
  · split
    · exact ⟨_, _, rfl, fun h => by omega, fun _ => by omega, by simp⟩
    · split
      · exact ⟨_, _, rfl, fun h => by omega, fun _ => by omega, by simp⟩
      · exact ⟨_, _, rfl, fun h => by omega, fun _ => by omega, by simp⟩

end Go.Proofs.YtanlgkmijegefaaDoor.Hand
