/- KeysTexts: of any key the text is the document's, or why there is none, and of any text the key, or that it is none. -/
import Derived.Test.YtanlgkmijegefaaDoorPKeysTextsx3
import Derived.Test.YtanlgkmijegefaaDoorHandKeyModel
import Derived.Test.YtanlgkmijegefaaDoorHandRef06
namespace Go.Proofs.YtanlgkmijegefaaDoor.Pure
open Go.RowKit Go.Proofs.YtanlgkmijegefaaDoor.PKeysTexts Go.Proofs.YtanlgkmijegefaaDoor.Hand Go.Proofs.YtanlgkmijegefaaDoorW.PrintWords Go.Proofs.YtanlgkmijegefaaDoorW.PrintLast
set_option linter.unusedVariables false
set_option linter.unusedSimpArgs false

theorem alive_of (k : Nat) : whispererlaw08_alive.f (k + 5) = some true := by
  unfold whispererlaw08_alive.f
  rw [show k + 5 = (k + 3) + 2 from rfl, bytes_eq, read_eq _ _ (by decide), of_eq _ _ (by decide)]
  have h1 : chk 3 0 = 0 := by decide +kernel
  have h2 : readL (⟨#[114, 117, 110, 101, 32, 54, 53]⟩ : ByteArray) = (0, 65, 0) := by decide +kernel
  have h3 : prn 21 = false := by decide +kernel
  have h4 : kindOf 21 = 8 := by decide +kernel
  rw [h1, h2, h3, h4]
  have h5 : (strOfNums (bytesOf 3)).toList = ([27, 91, 51, 126] : List UInt8) := by decide +kernel
  simp [h5]

theorem ref_prn (c : Int) : whispererref01_Printable.f c = some (prn c) := by
  unfold whispererref01_Printable.f whispererref01_Fine.f
  have e : ∀ b : Bool, (b = true ↔ prn c = true) → b = prn c := fun b h => Bool.eq_iff_iff.2 h
  by_cases h0 : c ≥ 0
  · rw [if_pos h0]
    by_cases h1 : c ≤ 1114111
    · rw [if_pos h1]
      by_cases h2 : c ≥ 55296
      · rw [if_pos h2]
        simp only [Option.bind_some]
        by_cases h3 : c ≤ 57343
        · rw [decide_eq_true h3]
          simp only [Bool.not_true, Bool.false_eq_true, if_false, Option.some.injEq]
          exact e false (by simp [prn_iff]; omega)
        · rw [decide_eq_false h3]
          simp only [Bool.not_false, if_true]
          rw [if_pos (by omega), if_pos (by omega), decide_eq_false (by omega)]
          exact congrArg some (e true (by simp [prn_iff]; omega))
      · rw [if_neg h2]
        simp only [Option.bind_some, Bool.not_false, if_true]
        by_cases h4 : c ≥ 32
        · rw [if_pos h4]
          by_cases h5 : c ≥ 127
          · rw [if_pos h5]
            refine congrArg some (e _ ?_)
            simp [prn_iff]; omega
          · rw [if_neg h5]
            refine congrArg some (e _ ?_)
            simp [prn_iff]; omega
        · rw [if_neg h4]
          refine congrArg some (e _ ?_)
          simp [prn_iff]; omega
    · rw [if_neg h1]
      simp only [Option.bind_some, Bool.false_eq_true, if_false]
      refine congrArg some (e _ ?_)
      simp [prn_iff]; omega
  · rw [if_neg h0]
    simp only [Option.bind_some, Bool.false_eq_true, if_false]
    refine congrArg some (e _ ?_)
    simp [prn_iff]; omega

theorem ref_chk (a c : Int) (k : Nat) : whispererref08_Check.f (k + 1) a c = some (chk a c) := by
  have j0 (b : Bool) (x y : Int) : whispererref08_Check.j0 (k + 1) b x y = (if b = true then (some 9) else (if x = 0 then ((whispererref01_Printable.f y).bind fun t113 => (if t113 = true then (some 0) else (some 2))) else (if y = 0 then (some 0) else (some 2)))) := rfl
  unfold whispererref08_Check.f
  by_cases h0 : a < 0
  · have : chk a c = 9 := by unfold chk; rw [if_pos (by omega)]
    rw [if_pos h0, this, j0, if_pos rfl]
  · rw [if_neg h0]
    by_cases h1 : a > 15
    · have : chk a c = 9 := by unfold chk; rw [if_pos (by omega)]
      rw [decide_eq_true h1, this, j0, if_pos rfl]
    · rw [decide_eq_false h1, j0, if_neg (by decide)]
      by_cases h2 : a = 0
      · have : chk a c = if prn c = true then 0 else 2 := by unfold chk; rw [if_neg (by omega), if_pos h2]
        rw [if_pos h2, ref_prn, this]
        simp only [Option.bind_some]
        cases prn c <;> rfl
      · have : chk a c = if c = 0 then 0 else 2 := by unfold chk; rw [if_neg (by omega), if_neg h2]
        rw [if_neg h2, this]
        by_cases h3 : c = 0
        · rw [if_pos h3, if_pos h3]
        · rw [if_neg h3, if_neg h3]

theorem text0 (c : Int) : (textOf 0 c).data.toList = [114, 117, 110, 101, 32] ++ Lib.itoa c := by
  unfold textOf
  rw [if_pos rfl, ba_app, ba_app]
  rfl
theorem text0_blank (c : Int) : (32 : UInt8) ∈ (textOf 0 c).data.toList := by
  rw [text0]
  simp
theorem name_blank : ∀ j : Nat, j < 16 → (32 : UInt8) ∉ (nameB j).data.toList := by decide +kernel
theorem name_inj : ∀ i : Nat, i < 16 → ∀ j : Nat, j < 16 → (nameB i).data.toList = (nameB j).data.toList → i = j := by decide +kernel
theorem text_other_eq (a c : Int) (h : a ≠ 0) : textOf a c = nameB a.toNat := by unfold textOf; rw [if_neg h]
theorem text_iff {a b c d : Int} (h1 : chk a b = 0) (h2 : chk c d = 0) : textOf a b = textOf c d ↔ a = c ∧ b = d := by
  constructor
  · intro h
    rcases (chk0 a b).1 h1 with ⟨rfl, hb⟩ | ha <;> rcases (chk0 c d).1 h2 with ⟨rfl, hd⟩ | hc
    · have e : [114, 117, 110, 101, 32] ++ Lib.itoa b = [114, 117, 110, 101, 32] ++ Lib.itoa d := by rw [← text0, ← text0, h]
      have p1 := (prn_iff b).1 hb
      have p2 := (prn_iff d).1 hd
      exact ⟨rfl, itoa_inj (by omega) (by omega) (List.append_cancel_left e)⟩
    · exfalso
      have := text0_blank b
      rw [h, text_other_eq c d (by omega)] at this
      exact name_blank c.toNat (by omega) this
    · exfalso
      have := text0_blank d
      rw [← h, text_other_eq a b (by omega)] at this
      exact name_blank a.toNat (by omega) this
    · rw [text_other_eq a b (by omega), text_other_eq c d (by omega)] at h
      have := name_inj a.toNat (by omega) c.toNat (by omega) (by rw [h])
      exact ⟨by omega, by omega⟩
  · rintro ⟨rfl, rfl⟩
    rfl


/-! what is read of a text -/
theorem rune_blank : (32 : UInt8) ∉ ([114, 117, 110, 101] : List UInt8) := by decide
theorem itoa_blank {c : Int} (h : 0 ≤ c) : (32 : UInt8) ∉ Lib.itoa c := by
  rw [itoa_nat h]
  intro hm
  have := dec_digit c.toNat 32 hm
  simp at this
theorem idx_name : ∀ j : Nat, j < 16 → Lib.idxOfS (namesBA.take 16) (nameB j) = j := by decide +kernel
theorem cut_text0 (c : Int) : Lib.cut (textOf 0 c).data.toList [32] = ([114, 117, 110, 101], Lib.itoa c, true) := by
  rw [text0]
  exact cut_at 32 [114, 117, 110, 101] (Lib.itoa c) rune_blank
theorem read_text {a c : Int} (h : chk a c = 0) : readL (textOf a c) = (a, c, 0) := by
  have hr : rdKind (textOf a c) = a ∧ rdChar (textOf a c) = c := by
    rcases (chk0 a c).1 h with ⟨rfl, hp⟩ | ha
    · have p := (prn_iff c).1 hp
      unfold rdKind rdChar
      rw [cut_text0 c]
      refine ⟨idx_name 0 (by decide), ?_⟩
      simp only [if_true]
      unfold atoiV
      rw [itoa_nat (by omega), atoi_digs c.toNat (by omega)]
      simp only
      omega
    · obtain ⟨j, rfl⟩ : ∃ j : Nat, a = j := ⟨a.toNat, by omega⟩
      unfold rdKind rdChar
      rw [text_other_eq _ _ (by omega), Int.toNat_natCast, cut_none 32 _ (name_blank j (by omega))]
      refine ⟨idx_name j (by omega), ?_⟩
      simp only [Bool.false_eq_true, if_false]
      omega
  unfold readL
  rw [hr.1, hr.2, if_pos ⟨h, rfl⟩]
theorem read_none {s : ByteArray} (h : ∀ a c, chk a c = 0 → textOf a c ≠ s) : readL s = (0, 0, 8) := by
  unfold readL
  rw [if_neg]
  rintro ⟨h1, h2⟩
  exact h _ _ h1 h2

def NL : List ByteArray := namesBA.take 16
theorem NL_at : ∀ j : Nat, j < 16 → rdOf ByteArray.empty NL (j : Int) = nameB j := by decide +kernel
theorem NL_len : (NL.length : Int) = 16 := by decide
theorem names_ref : whispererref08_Names.f = some NL := by rfl
/-- What is told of a text that is no name. -/
theorem loop_end (s : ByteArray) (h : ∀ j : Nat, 1 ≤ j → j < 16 → nameB j ≠ s) (d : Nat) : ∀ (i k : Nat), i + d = 16 → 1 ≤ i → whispererref08_Read.l0 (k + 1 + d) s NL (i : Int) = whispererref08_Read.l0 (k + 1) s NL 16 := by
  induction d with
  | zero => intro i k hi _; rw [show i = 16 by omega]; rfl
  | succ d ih =>
    intro i k hi h1
    show whispererref08_Read.l0 ((k + 1 + d) + 1) s NL (i : Int) = _
    conv => lhs; unfold whispererref08_Read.l0
    rw [if_pos (by rw [NL_len]; omega), if_pos (by omega), NL_at i (by omega), if_neg, w64 (by omega) (by omega)]
    · exact ih (i + 1) k (by omega) (by omega)
    · rw [ByteArray.toList_eq, ByteArray.toList_eq]
      intro e
      exact h i h1 (by omega) (ba_ext e)
theorem loop_hit (j : Nat) (hj : j < 16) (d : Nat) : ∀ (i k : Nat), i + d = j → 1 ≤ i → whispererref08_Read.l0 (k + 1 + d) (nameB j) NL (i : Int) = some ((j : Int), 0, 0) := by
  induction d with
  | zero =>
    intro i k hi h1
    obtain rfl : i = j := by omega
    show whispererref08_Read.l0 (k + 1) _ _ _ = _
    unfold whispererref08_Read.l0
    rw [if_pos (by rw [NL_len]; omega), if_pos (by omega), NL_at i (by omega), if_pos rfl]
  | succ d ih =>
    intro i k hi h1
    show whispererref08_Read.l0 ((k + 1 + d) + 1) _ NL (i : Int) = _
    unfold whispererref08_Read.l0
    rw [if_pos (by rw [NL_len]; omega), if_pos (by omega), NL_at i (by omega), if_neg, w64 (by omega) (by omega)]
    · exact ih (i + 1) k (by omega) (by omega)
    · rw [ByteArray.toList_eq, ByteArray.toList_eq]
      intro e
      have := name_inj i (by omega) j hj e
      omega
/-- What the parts tell. -/
def partsR (w : List (List UInt8)) : Int × Int × Int :=
  match w with
  | [p, q] => if p = [114, 117, 110, 101] ∧ chk 0 (numB 10 7 q) = 0 then (0, numB 10 7 q, 0) else (0, 0, 8)
  | _ => (0, 0, 8)
theorem read_end (s : ByteArray) (k : Nat) (hs : s.size ≤ 500) : whispererref08_Read.l0 (k + 600) s NL 16 = some (partsR (splitB 32 s.data.toList)) := by
  have jf (l : List ByteArray) : whispererref08_Read.j1 (k + 599) l false = some (0, 0, 8) := by unfold whispererref08_Read.j1; rfl
  unfold whispererref08_Read.l0
  rw [if_neg (by rw [NL_len]; omega)]
  have hc := refcut_eq s 32 (k + 598 - s.size) (by omega)
  rw [show k + 598 - s.size + 1 + s.size = k + 599 by omega] at hc
  rw [show (((32 : UInt8).toNat : Nat) : Int) = 32 from rfl] at hc
  rw [hc]
  simp only [Option.bind_some]
  rcases hsp : splitB 32 s.data.toList with _ | ⟨p, _ | ⟨q, _ | ⟨r, t⟩⟩⟩
  · rw [if_neg (by simp)]; exact jf _
  · rw [if_neg (by simp)]; exact jf _
  · rw [if_pos (by simp), if_pos (by simp)]
    have hb : ((rdOf ByteArray.empty (List.map ba [p, q]) 0).toList == ([114, 117, 110, 101] : List UInt8)) = decide (p = [114, 117, 110, 101]) := by
      rw [show rdOf ByteArray.empty (List.map ba [p, q]) 0 = ba p from rfl, ByteArray.toList_eq, data_ba]
      by_cases e : p = [114, 117, 110, 101]
      · rw [decide_eq_true e, e]; rfl
      · rw [decide_eq_false e]; simpa using e
    rw [hb, show partsR [p, q] = (if p = [114, 117, 110, 101] ∧ chk 0 (numB 10 7 q) = 0 then (0, numB 10 7 q, 0) else (0, 0, 8)) from rfl]
    by_cases hp : p = [114, 117, 110, 101]
    · rw [decide_eq_true hp]
      rw [show whispererref08_Read.j1 (k + 599) (List.map ba [p, q]) true = (if 1 < ((List.map ba [p, q]).length : Int) then ((PNumber.whispererref06_Number.f (k + 598) (rdOf ByteArray.empty (List.map ba [p, q]) 1) 10 7).bind fun t127 => ((whispererref08_Check.f (k + 598) 0 t127).bind fun t129 => (if t129 = 0 then (some (0, t127, 0)) else (some (0, 0, 8))))) else (none)) from rfl]
      rw [if_pos (by simp), show rdOf ByteArray.empty (List.map ba [p, q]) 1 = ba q from rfl]
      have hn := num_eq (ba q) 10 7 (k + 595) (by omega) (by omega) (by omega) (by decide) (by omega)
      rw [data_ba] at hn
      rw [show ((10 : Nat) : Int) = 10 from rfl, show ((7 : Nat) : Int) = 7 from rfl] at hn
      rw [hn]
      simp only [Option.bind_some]
      rw [ref_chk]
      simp only [Option.bind_some]
      by_cases hk : chk 0 (numB 10 7 q) = 0
      · rw [if_pos hk, if_pos ⟨hp, hk⟩]
      · rw [if_neg hk, if_neg (fun x => hk x.2)]
    · rw [decide_eq_false hp, if_neg (fun x => hp x.1)]
      exact jf _
  · rw [if_neg (by simp; omega)]; exact jf _
theorem ref_read (s : ByteArray) (hs : s.size ≤ 500) : whispererref08_Read.f 700 s = some (readL s) := by
  unfold whispererref08_Read.f
  rw [names_ref]
  simp only [Option.bind_some]
  by_cases hv : ∃ a c, chk a c = 0 ∧ textOf a c = s
  · obtain ⟨a, c, h, rfl⟩ := hv
    rw [read_text h]
    rcases (chk0 a c).1 h with ⟨rfl, hp⟩ | ha
    · have p := (prn_iff c).1 hp
      have hn : ∀ j : Nat, 1 ≤ j → j < 16 → nameB j ≠ textOf 0 c := by
        intro j h1 h2 e
        have := text0_blank c
        rw [← e] at this
        exact name_blank j h2 this
      have := loop_end (textOf 0 c) hn 15 1 684 (by omega) (by omega)
      refine Eq.trans this ?_
      rw [show 684 + 1 = 85 + 600 from rfl, read_end _ _ hs, text0]
      have hsp : splitB 32 ([114, 117, 110, 101, 32] ++ Lib.itoa c) = [[114, 117, 110, 101], Lib.itoa c] := by
        have := split_app 32 [114, 117, 110, 101] (Lib.itoa c) rune_blank
        rw [split_none 32 (Lib.itoa c) (itoa_blank (by omega))] at this
        exact this
      rw [hsp]
      have hnum : numB 10 7 (Lib.itoa c) = c := by
        rw [itoa_nat (by omega), ← digs_dec, numB_digs (by omega) (by omega) (digs_len (by omega) (by omega) (by omega) (by omega))]
        omega
      rw [show partsR [[114, 117, 110, 101], Lib.itoa c] = (if ([114, 117, 110, 101] : List UInt8) = [114, 117, 110, 101] ∧ chk 0 (numB 10 7 (Lib.itoa c)) = 0 then (0, numB 10 7 (Lib.itoa c), 0) else (0, 0, 8)) from rfl, hnum, if_pos ⟨rfl, h⟩]
    · obtain ⟨j, rfl⟩ : ∃ j : Nat, a = j := ⟨a.toNat, by omega⟩
      rw [text_other_eq _ _ (by omega), Int.toNat_natCast, ha.2.2]
      have := loop_hit j (by omega) (j - 1) 1 (700 - j) (by omega) (by omega)
      rw [show 700 - j + 1 + (j - 1) = 700 by omega] at this
      exact this
  · have hv' : ∀ a c, chk a c = 0 → textOf a c ≠ s := fun a c h e => hv ⟨a, c, h, e⟩
    rw [read_none hv']
    have hn : ∀ j : Nat, 1 ≤ j → j < 16 → nameB j ≠ s := by
      intro j h1 h2 e
      refine hv' j 0 ((chk0 _ _).2 (.inr ⟨by omega, by omega, rfl⟩)) ?_
      rw [text_other_eq _ _ (by omega), Int.toNat_natCast, e]
    have := loop_end s hn 15 1 684 (by omega) (by omega)
    refine Eq.trans this ?_
    rw [show 684 + 1 = 85 + 600 from rfl, read_end _ _ hs]
    have hj := join_split 32 s.data.toList
    congr 1
    unfold partsR
    rcases hsp : splitB 32 s.data.toList with _ | ⟨p, _ | ⟨q, _ | ⟨r, t⟩⟩⟩
    · rfl
    · rfl
    · simp only
      rw [if_neg]
      rintro ⟨hp, hk⟩
      rw [hsp, hp] at hj
      have h0 : 0 ≤ numB 10 7 q := by
        rcases (chk0 _ _).1 hk with ⟨_, h2⟩ | h2
        · have := (prn_iff _).1 h2; omega
        · omega
      obtain ⟨hd, _, _⟩ := numB_sound (by omega) (by omega) h0
      refine hv' 0 _ hk (ba_ext ?_)
      rw [text0, itoa_nat h0, ← digs_dec, hd, ← hj]
      rfl
    · rfl

theorem ref_text {a c : Int} (k : Nat) (hk : 30 ≤ k) (hk2 : k ≤ 900) (h : chk a c = 0) : whispererref08_Text.f (k + 1) a c = some (textOf a c) := by
  unfold whispererref08_Text.f
  rw [names_ref]
  simp only [Option.bind_some]
  rcases (chk0 a c).1 h with ⟨rfl, hp⟩ | ha
  · have p := (prn_iff c).1 hp
    have hl : (digs 10 c.toNat).length ≤ 7 := digs_len (by omega) (by omega) (by omega) (by omega)
    have := dec_eq 10 c.toNat k (by omega) (by omega) (by omega) (by omega) (by omega)
    rw [show ((c.toNat : Nat) : Int) = c by omega, show ((10 : Nat) : Int) = 10 from rfl] at this
    rw [if_pos rfl, this]
    simp only [Option.bind_some]
    rw [if_pos (by show 5 + (digs 10 c.toNat).toArray.size ≤ _; simp; omega)]
    congr 1
    apply ba_ext
    rw [text0, itoa_nat (by omega), ← digs_dec, ba_app, data_ba]
  · obtain ⟨j, rfl⟩ : ∃ j : Nat, a = j := ⟨a.toNat, by omega⟩
    rw [if_neg (by omega), if_pos (by omega), if_pos (by rw [NL_len]; omega), NL_at j (by omega), text_other_eq _ _ (by omega), Int.toNat_natCast]

theorem KeysTexts (a c : Int) (s : ByteArray) (hc : (Lit.int .i64 c).wf = true) : whispererlaw08_KeysTexts.f 700 a c s = some true := by
  unfold whispererlaw08_KeysTexts.f
  by_cases hs : (s.size : Int) > 500
  · rw [if_pos hs, alive_of 695]
    rfl
  · rw [if_neg hs, text_eq a c 698 hc, read_eq s 698 (by omega), ref_read s (by omega), alive_of 695]
    simp only [Option.bind_some, if_true]
    rw [if_neg (by simp)]
    have e : ((readL s).2.2 != (readL s).2.2) = false := by simp
    rw [e]
    simp only [whispererlaw08_KeysTexts.j0, Bool.false_eq_true, if_false]
    rw [show (699 : Nat) = 698 + 1 from rfl, ref_chk]
    simp only [Option.bind_some]
    by_cases h : chk a c = 0
    · rw [if_pos h, if_pos h]
      simp only [if_true]
      rw [ref_text 698 (by omega) (by omega) h]
      simp
    · rw [if_neg h, if_neg h]
      simp

end Go.Proofs.YtanlgkmijegefaaDoor.Pure

namespace Go.Proofs.YtanlgkmijegefaaDoor.Hand
open Go.RowKit
set_option linter.unusedVariables false
theorem KeysTexts_walk (a0_0 a0_1 : Int) (a1 : ByteArray) (w0_0 : (Lit.int .i64 a0_0).wf = true) (w0_1 : (Lit.int .i64 a0_1).wf = true) (w1 : a1.size ≤ 140737488351232) (w : World) (HT : Tab w) :
    Calls Tryd.prog 3 #[.agg #[.int .i64 a0_0, .int .i64 a0_1], .string a1] w fun e w' => e = .returned (.bool true) ∧ Below w.heap.size w w' :=
  PKeysTexts.whispererlaw08_KeysTexts.calls 700 a0_0 a0_1 a1 true w HT (Pure.KeysTexts a0_0 a0_1 a1 w0_1)
end Go.Proofs.YtanlgkmijegefaaDoor.Hand
