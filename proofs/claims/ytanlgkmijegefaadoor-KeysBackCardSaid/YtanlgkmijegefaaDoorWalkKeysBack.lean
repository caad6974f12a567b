/- KeysBack: what a key is told by has that key; a text is read as its key, and what is read has that text. -/
import Derived.Test.YtanlgkmijegefaaDoorPKeysBackx3
import Derived.Test.YtanlgkmijegefaaDoorHandKeyModel
namespace Go.Proofs.YtanlgkmijegefaaDoor.Pure
open Go.RowKit Go.Proofs.YtanlgkmijegefaaDoor.PKeysBack Go.Proofs.YtanlgkmijegefaaDoor.Hand Go.Proofs.YtanlgkmijegefaaDoorW.PrintWords Go.Proofs.YtanlgkmijegefaaDoorW.PrintLast
set_option linter.unusedVariables false
set_option linter.unusedSimpArgs false

theorem alive_of (k : Nat) : whispererlaw08_alive.f (k + 5) = some true := by
  unfold whispererlaw08_alive.f
  rw [show k + 5 = (k + 3) + 2 from rfl, bytes_eq, read_eq _ _ (by decide), of_eq _ _ (by decide)]
  have h1 : chk 3 0 = 0 := by decide +kernel
  have h2 : readL (⟨#[114, 117, 110, 101, 32, 54, 53]⟩ : ByteArray) = (0, 65, 0) := by decide +kernel
  have h3 : prn 21 = false := by decide +kernel
  have h4 : kindOf 21 = 8 := by decide +kernel
  rw [h1, h2, h3, h4]
  have h5 : (strOfNums (bytesOf 3)).toList = ([27, 91, 51, 126] : List UInt8) := by decide +kernel
  simp [h5]

theorem text0 (c : Int) : (textOf 0 c).data.toList = [114, 117, 110, 101, 32] ++ Lib.itoa c := by
  unfold textOf
  rw [if_pos rfl, ba_app, ba_app]
  rfl
theorem text0_blank (c : Int) : (32 : UInt8) ∈ (textOf 0 c).data.toList := by
  rw [text0]
  simp
theorem name_blank : ∀ j : Nat, j < 16 → (32 : UInt8) ∉ (nameB j).data.toList := by decide +kernel
theorem text_other_eq (a c : Int) (h : a ≠ 0) : textOf a c = nameB a.toNat := by unfold textOf; rw [if_neg h]
theorem rune_blank : (32 : UInt8) ∉ ([114, 117, 110, 101] : List UInt8) := by decide
theorem itoa_blank {c : Int} (h : 0 ≤ c) : (32 : UInt8) ∉ Lib.itoa c := by
  rw [itoa_nat h]
  intro hm
  have := dec_digit c.toNat 32 hm
  simp at this
theorem idx_name : ∀ j : Nat, j < 16 → Lib.idxOfS (namesBA.take 16) (nameB j) = j := by decide +kernel
theorem cut_text0 (c : Int) : Lib.cut (textOf 0 c).data.toList [32] = ([114, 117, 110, 101], Lib.itoa c, true) := by
  rw [text0]
  exact cut_at 32 [114, 117, 110, 101] (Lib.itoa c) rune_blank
theorem read_text {a c : Int} (h : chk a c = 0) : readL (textOf a c) = (a, c, 0) := by
  have hr : rdKind (textOf a c) = a ∧ rdChar (textOf a c) = c := by
    rcases (chk0 a c).1 h with ⟨rfl, hp⟩ | ha
    · have p := (prn_iff c).1 hp
      unfold rdKind rdChar
      rw [cut_text0 c]
      refine ⟨idx_name 0 (by decide), ?_⟩
      simp only [if_true]
      unfold atoiV
      rw [itoa_nat (by omega), atoi_digs c.toNat (by omega)]
      simp only
      omega
    · obtain ⟨j, rfl⟩ : ∃ j : Nat, a = j := ⟨a.toNat, by omega⟩
      unfold rdKind rdChar
      rw [text_other_eq _ _ (by omega), Int.toNat_natCast, cut_none 32 _ (name_blank j (by omega))]
      refine ⟨idx_name j (by omega), ?_⟩
      simp only [Bool.false_eq_true, if_false]
      omega
  unfold readL
  rw [hr.1, hr.2, if_pos ⟨h, rfl⟩]

theorem text_size : ∀ j : Nat, j < 16 → (nameB j).size < 100 := by decide +kernel
theorem textOf_size {a c : Int} (h : chk a c = 0) : (textOf a c).size < 4294967281 := by
  rcases (chk0 a c).1 h with ⟨rfl, hp⟩ | ha
  · have p := (prn_iff c).1 hp
    have := itoa_size c (by omega) (by omega)
    have e : (textOf 0 c).size = 5 + (Lib.itoa c).length := by
      show (textOf 0 c).data.size = _
      rw [← Array.length_toList, text0]
      simp
      omega
    have e2 : (⟨(Lib.itoa c).toArray⟩ : ByteArray).size = (Lib.itoa c).length := by
      show (Lib.itoa c).toArray.size = _
      simp
    omega
  · rw [text_other_eq _ _ (by omega)]
    have := text_size a.toNat (by omega)
    omega
/-- A character's bytes are the character. -/
theorem next_enc (c : Int) (h : isChar c = true) : nxL (enc c) = (c.toNat, (enc c).length, 0) := by
  have h' := (isChar_iff c).1 h
  obtain ⟨n, rfl⟩ : ∃ n : Nat, c = n := ⟨c.toNat, by omega⟩
  rw [Int.toNat_natCast]
  unfold enc
  split
  · have e : at0 [(n : Int)] 0 = n := by simp [at0]
    rw [show nxL [(n : Int)] = nx 1 (at0 [(n : Int)] 0) (at0 [(n : Int)] 1) (at0 [(n : Int)] 2) (at0 [(n : Int)] 3) from rfl, e]
    unfold nx
    rw [if_pos (by omega)]
    rfl
  split
  · rename_i h1 h2
    have e0 : (192 + (n : Int) / 64).toNat = 192 + n / 64 := by omega
    have e1 : (128 + (n : Int) % 64).toNat = 128 + n % 64 := by omega
    have hl : ¬ (128 + n % 64 < nlo (192 + n / 64) ∨ nhi (192 + n / 64) < 128 + n % 64) := by
      unfold nlo nhi
      rw [if_neg (by omega), if_neg (by omega), if_neg (by omega), if_neg (by omega)]
      omega
    rw [show nxL [192 + (n : Int) / 64, 128 + (n : Int) % 64] = nx 2 (192 + (n : Int) / 64).toNat (128 + (n : Int) % 64).toNat 0 0 from rfl, e0, e1]
    unfold nx
    rw [if_neg (by omega), if_neg (by omega), if_neg (by omega), if_neg hl, if_pos (by omega)]
    refine Prod.ext ?_ rfl
    show (192 + n / 64) % 32 * 64 + (128 + n % 64) % 64 = n
    omega
  split
  · rename_i h1 h2 h3
    have e0 : (224 + (n : Int) / 4096).toNat = 224 + n / 4096 := by omega
    have e1 : (128 + (n : Int) / 64 % 64).toNat = 128 + n / 64 % 64 := by omega
    have e2 : (128 + (n : Int) % 64).toNat = 128 + n % 64 := by omega
    have hl : ¬ (128 + n / 64 % 64 < nlo (224 + n / 4096) ∨ nhi (224 + n / 4096) < 128 + n / 64 % 64) := by
      unfold nlo nhi
      repeat' split
      all_goals omega
    rw [show nxL [224 + (n : Int) / 4096, 128 + (n : Int) / 64 % 64, 128 + (n : Int) % 64] = nx 3 (224 + (n : Int) / 4096).toNat (128 + (n : Int) / 64 % 64).toNat (128 + (n : Int) % 64).toNat 0 from rfl, e0, e1, e2]
    unfold nx
    rw [if_neg (by omega), if_neg (by omega), if_neg (by omega), if_neg hl, if_neg (by omega), if_neg (by omega), if_neg (by omega), if_pos (by omega)]
    refine Prod.ext ?_ rfl
    show (224 + n / 4096) % 16 * 4096 + (128 + n / 64 % 64) % 64 * 64 + (128 + n % 64) % 64 = n
    omega
  · rename_i h1 h2 h3
    have e0 : (240 + (n : Int) / 262144).toNat = 240 + n / 262144 := by omega
    have e1 : (128 + (n : Int) / 4096 % 64).toNat = 128 + n / 4096 % 64 := by omega
    have e2 : (128 + (n : Int) / 64 % 64).toNat = 128 + n / 64 % 64 := by omega
    have e3 : (128 + (n : Int) % 64).toNat = 128 + n % 64 := by omega
    have hl : ¬ (128 + n / 4096 % 64 < nlo (240 + n / 262144) ∨ nhi (240 + n / 262144) < 128 + n / 4096 % 64) := by
      unfold nlo nhi
      repeat' split
      all_goals omega
    rw [show nxL [240 + (n : Int) / 262144, 128 + (n : Int) / 4096 % 64, 128 + (n : Int) / 64 % 64, 128 + (n : Int) % 64] = nx 4 (240 + (n : Int) / 262144).toNat (128 + (n : Int) / 4096 % 64).toNat (128 + (n : Int) / 64 % 64).toNat (128 + (n : Int) % 64).toNat from rfl, e0, e1, e2, e3]
    unfold nx
    rw [if_neg (by omega), if_neg (by omega), if_neg (by omega), if_neg hl, if_neg (by omega), if_neg (by omega), if_neg (by omega), if_neg (by omega), if_neg (by omega), if_neg (by omega)]
    refine Prod.ext ?_ rfl
    show (240 + n / 262144) % 8 * 262144 + (128 + n / 4096 % 64) % 64 * 4096 + (128 + n / 64 % 64) % 64 * 64 + (128 + n % 64) % 64 = n
    omega
theorem next_told : ∀ j : Nat, j < 16 → 1 ≤ j → (nxL (bytesOf j)).2.2 = 0 ∧ (∀ y ∈ bytesOf j, 0 ≤ y ∧ y ≤ 255) ∧ ((nxL (bytesOf j)).2.1 < (bytesOf j).length ∨ (prn ((nxL (bytesOf j)).1 : Int) = false ∧ kindOf ((nxL (bytesOf j)).1 : Int) = j ∧ ((nxL (bytesOf j)).1 : Int) < 1000)) := by decide +kernel

theorem back_j0 (a c : Int) (hw : (Lit.int .i64 c).wf = true) (k : Nat) : whispererlaw08_KeysBack.j0 (k + 12) a c = some true := by
  show ((Hand.keys_Bytes.f (k + 9 + 2) a c).bind _) = _
  rw [bytes_eq, Option.bind_some]
  by_cases h : chk a c = 0
  · rw [if_pos h]
    have hal := alive_of (k + 6)
    rw [show k + 6 + 5 = k + 11 by omega] at hal
    have ht := text_eq a c (k + 9) hw
    rw [show k + 9 + 2 = k + 11 by omega, if_pos h] at ht
    have hr := read_eq (textOf a c) (k + 9) (textOf_size h)
    rw [show k + 9 + 2 = k + 11 by omega, read_text h] at hr
    rcases (chk0 a c).1 h with ⟨rfl, hp⟩ | ha
    · have p := (prn_iff c).1 hp
      have hn := next_f (k + 11) (by omega) (enc c) (enc_byte c (by omega) (by omega))
      rw [next_enc c (prn_char c hp)] at hn
      have ho := of_eq c (k + 10) hw
      rw [show k + 10 + 1 = k + 11 by omega, if_pos hp] at ho
      have ec : ((c.toNat : Nat) : Int) = c := by omega
      rw [if_pos (show (0 : Int) = 0 from rfl)]
      simp only [if_true, ht, Option.bind_some, hr, hn, hal, ec, ho]
      simp
    · obtain ⟨h1, h2, rfl⟩ := ha
      obtain ⟨j, rfl⟩ : ∃ j : Nat, a = j := ⟨a.toNat, by omega⟩
      obtain ⟨q0, qb, q1⟩ := next_told j (by omega) (by omega)
      have hn := next_f (k + 11) (by omega) (bytesOf j) qb
      rw [q0] at hn
      rw [if_neg (show ¬ (j : Int) = 0 by omega)]
      rcases q1 with q1 | ⟨q1, q2, q3⟩
      · simp only [if_true, ht, Option.bind_some, hr, hn, hal]
        rw [if_pos (show (((nxL (bytesOf j)).2.1 : Nat) : Int) < ((bytesOf j).length : Int) by omega)]
        simp
      · have ho := of_eq ((nxL (bytesOf j)).1 : Int) (k + 10) (by
          generalize (nxL (bytesOf j)).1 = v at *
          have e1 : IntKind.i64.min = -9223372036854775808 := by decide
          have e2 : IntKind.i64.max = 9223372036854775807 := by decide
          show (decide (IntKind.i64.min ≤ (v : Int)) && decide ((v : Int) ≤ IntKind.i64.max)) = true
          rw [e1, e2]
          simp
          omega)
        rw [show k + 10 + 1 = k + 11 by omega, if_neg (by rw [q1]; simp), q2] at ho
        simp only [if_true, ht, Option.bind_some, hr, hn, hal, ho]
        simp
  · rw [if_neg h]
    have hal := alive_of (k + 6)
    rw [show k + 6 + 5 = k + 11 by omega] at hal
    simp only [h, if_false, hal, Option.bind_some]
    rfl

theorem KeysBack (a c : Int) (s : ByteArray) (hw : (Lit.int .i64 c).wf = true) : whispererlaw08_KeysBack.f 20 a c s = some true := by
  unfold whispererlaw08_KeysBack.f
  by_cases h5 : (s.size : Int) > 500
  · rw [if_pos h5, alive_of 15]
    rfl
  · rw [if_neg h5, read_eq s 18 (by omega), Option.bind_some]
    have hj := back_j0 a c hw 8
    unfold readL
    by_cases hs : chk (rdKind s) (rdChar s) = 0 ∧ textOf (rdKind s) (rdChar s) = s
    · rw [if_pos hs]
      have ht := text_eq (rdKind s) (rdChar s) 18 (by unfold rdChar; split; exact atoiV_wf _; rfl)
      rw [if_pos hs.1, hs.2] at ht
      simp only [if_true, ht, Option.bind_some]
      exact hj
    · rw [if_neg hs]
      simp only [show ¬ (8 : Int) = 0 by omega, if_false]
      exact hj

end Go.Proofs.YtanlgkmijegefaaDoor.Pure
namespace Go.Proofs.YtanlgkmijegefaaDoor.Hand
open Go.RowKit
set_option linter.unusedVariables false
theorem KeysBack_walk (a0_0 a0_1 : Int) (a1 : ByteArray) (w0_0 : (Lit.int .i64 a0_0).wf = true) (w0_1 : (Lit.int .i64 a0_1).wf = true) (w1 : a1.size ≤ 140737488351232) (w : World) (HT : TabU w) :
    Calls Tryd.prog 7 #[.agg #[.int .i64 a0_0, .int .i64 a0_1], .string a1] w fun e w' => e = .returned (.bool true) ∧ Below w.heap.size w w' :=
  PKeysBack.whispererlaw08_KeysBack.calls 20 a0_0 a0_1 a1 true w HT (Pure.KeysBack a0_0 a0_1 a1 w0_1)
end Go.Proofs.YtanlgkmijegefaaDoor.Hand
