/- KeysOf: of any number the key is the document's, and of any key what it is told by, or why there is nothing; the names. -/
import Derived.Test.YtanlgkmijegefaaDoorPKeysOfx3
import Derived.Test.YtanlgkmijegefaaDoorHandKeyModel2
namespace Go.Proofs.YtanlgkmijegefaaDoor.Pure
open Go.RowKit Go.Proofs.YtanlgkmijegefaaDoor.PKeysOf Go.Proofs.YtanlgkmijegefaaDoor.Hand Go.Proofs.YtanlgkmijegefaaDoorW.PrintWords Go.Proofs.YtanlgkmijegefaaDoorW.PrintLast
set_option linter.unusedVariables false
set_option linter.unusedSimpArgs false

theorem alive_of (k : Nat) : whispererlaw08_alive.f (k + 5) = some true := by
  unfold whispererlaw08_alive.f
  rw [show k + 5 = (k + 3) + 2 from rfl, bytes_eq, read_eq _ _ (by decide), of_eq _ _ (by decide)]
  have h1 : chk 3 0 = 0 := by decide +kernel
  have h2 : readL (⟨#[114, 117, 110, 101, 32, 54, 53]⟩ : ByteArray) = (0, 65, 0) := by decide +kernel
  have h3 : prn 21 = false := by decide +kernel
  have h4 : kindOf 21 = 8 := by decide +kernel
  rw [h1, h2, h3, h4]
  have h5 : (strOfNums (bytesOf 3)).toList = ([27, 91, 51, 126] : List UInt8) := by decide +kernel
  simp [h5]

theorem ref_prn (c : Int) : whispererref01_Printable.f c = some (prn c) := by
  unfold whispererref01_Printable.f whispererref01_Fine.f
  have e : ∀ b : Bool, (b = true ↔ prn c = true) → b = prn c := fun b h => Bool.eq_iff_iff.2 h
  by_cases h0 : c ≥ 0
  · rw [if_pos h0]
    by_cases h1 : c ≤ 1114111
    · rw [if_pos h1]
      by_cases h2 : c ≥ 55296
      · rw [if_pos h2]
        simp only [Option.bind_some]
        by_cases h3 : c ≤ 57343
        · rw [decide_eq_true h3]
          simp only [Bool.not_true, Bool.false_eq_true, if_false, Option.some.injEq]
          exact e false (by simp [prn_iff]; omega)
        · rw [decide_eq_false h3]
          simp only [Bool.not_false, if_true]
          rw [if_pos (by omega), if_pos (by omega), decide_eq_false (by omega)]
          exact congrArg some (e true (by simp [prn_iff]; omega))
      · rw [if_neg h2]
        simp only [Option.bind_some, Bool.not_false, if_true]
        by_cases h4 : c ≥ 32
        · rw [if_pos h4]
          by_cases h5 : c ≥ 127
          · rw [if_pos h5]
            refine congrArg some (e _ ?_)
            simp [prn_iff]; omega
          · rw [if_neg h5]
            refine congrArg some (e _ ?_)
            simp [prn_iff]; omega
        · rw [if_neg h4]
          refine congrArg some (e _ ?_)
          simp [prn_iff]; omega
    · rw [if_neg h1]
      simp only [Option.bind_some, Bool.false_eq_true, if_false]
      refine congrArg some (e _ ?_)
      simp [prn_iff]; omega
  · rw [if_neg h0]
    simp only [Option.bind_some, Bool.false_eq_true, if_false]
    refine congrArg some (e _ ?_)
    simp [prn_iff]; omega

theorem kind_none (c : Int) (h : ∀ t ∈ insL, t.2.1 ≠ c) : kindOf c = 15 := by
  unfold kindOf charKind
  have : insL.find? (fun t => t.2.1 == c) = none := by
    rw [List.find?_eq_none]
    intro t ht
    simpa using h t ht
  rw [this]
  rfl
theorem ref_of (c : Int) (k : Nat) : whispererref08_Of.f (k + 2) c = some (if prn c = true then (0, c) else (kindOf c, 0)) := by
  unfold whispererref08_Of.f
  rw [ref_prn]
  simp only [Option.bind_some]
  by_cases h : prn c = true
  · rw [if_pos h, if_pos h]
  · rw [if_neg h, if_neg h]
    simp only [whispererref08_Of.j0, whispererref08_Of.j1]
    by_cases m : c ∈ insL.map (fun t => t.2.1)
    · have key : ∀ x ∈ insL.map (fun t => t.2.1), (if x = 13 then whispererref08_Of.j0 2 x (x == 13) else whispererref08_Of.j0 2 x (x == 10)) = some (kindOf x, 0) := by decide +kernel
      have := key c m
      simp only [whispererref08_Of.j0, whispererref08_Of.j1] at this
      exact this
    · have ne : ∀ t ∈ insL, t.2.1 ≠ c := fun t ht e => m (List.mem_map.2 ⟨t, ht, e⟩)
      rw [kind_none c ne]
      have hn : c ≠ 13 ∧ c ≠ 10 ∧ c ≠ 8 ∧ c ≠ 127 ∧ c ≠ 2 ∧ c ≠ 6 ∧ c ≠ 1 ∧ c ≠ 5 ∧ c ≠ 21 ∧ c ≠ 11 ∧ c ≠ 12 ∧ c ≠ 3 ∧ c ≠ 4 := by
        refine ⟨?_, ?_, ?_, ?_, ?_, ?_, ?_, ?_, ?_, ?_, ?_, ?_, ?_⟩ <;> (rintro rfl; exact m (by decide))
      simp [hn]

theorem ref_chk (a c : Int) (k : Nat) : whispererref08_Check.f (k + 1) a c = some (chk a c) := by
  have j0 (b : Bool) (x y : Int) : whispererref08_Check.j0 (k + 1) b x y = (if b = true then (some 9) else (if x = 0 then ((whispererref01_Printable.f y).bind fun t113 => (if t113 = true then (some 0) else (some 2))) else (if y = 0 then (some 0) else (some 2)))) := rfl
  unfold whispererref08_Check.f
  by_cases h0 : a < 0
  · have : chk a c = 9 := by unfold chk; rw [if_pos (by omega)]
    rw [if_pos h0, this, j0, if_pos rfl]
  · rw [if_neg h0]
    by_cases h1 : a > 15
    · have : chk a c = 9 := by unfold chk; rw [if_pos (by omega)]
      rw [decide_eq_true h1, this, j0, if_pos rfl]
    · rw [decide_eq_false h1, j0, if_neg (by decide)]
      by_cases h2 : a = 0
      · have : chk a c = if prn c = true then 0 else 2 := by unfold chk; rw [if_neg (by omega), if_pos h2]
        rw [if_pos h2, ref_prn, this]
        simp only [Option.bind_some]
        cases prn c <;> rfl
      · have : chk a c = if c = 0 then 0 else 2 := by unfold chk; rw [if_neg (by omega), if_neg h2]
        rw [if_neg h2, this]
        by_cases h3 : c = 0
        · rw [if_pos h3, if_pos h3]
        · rw [if_neg h3, if_neg h3]

theorem w64 {x : Int} (h0 : 0 ≤ x) (h1 : x ≤ 9223372036854775807) : wrap64 x = x := by unfold wrap64; omega
theorem ref_put (c : Int) (h0 : 0 ≤ c) (h1 : c ≤ 1114111) : PPut.whispererref01_Put.f c = some (enc c) := by
  unfold PPut.whispererref01_Put.f enc
  rw [Int.tdiv_eq_ediv_of_nonneg h0, Int.tdiv_eq_ediv_of_nonneg h0, Int.tdiv_eq_ediv_of_nonneg h0, Int.tmod_eq_emod_of_nonneg h0]
  have e1 : wrap64 (c / 64) = c / 64 := w64 (by omega) (by omega)
  have e2 : wrap64 (c / 4096) = c / 4096 := w64 (by omega) (by omega)
  have e3 : wrap64 (c / 262144) = c / 262144 := w64 (by omega) (by omega)
  rw [e1, e2, e3, Int.tmod_eq_emod_of_nonneg (show 0 ≤ c / 64 by omega), Int.tmod_eq_emod_of_nonneg (show 0 ≤ c / 4096 by omega)]
  rw [w64 (x := 192 + c / 64) (by omega) (by omega), w64 (x := 224 + c / 4096) (by omega) (by omega), w64 (x := 240 + c / 262144) (by omega) (by omega), w64 (x := 128 + c % 64) (by omega) (by omega), w64 (x := 128 + c / 64 % 64) (by omega) (by omega), w64 (x := 128 + c / 4096 % 64) (by omega) (by omega)]
  have m1 : (128 + c % 64) % 256 = 128 + c % 64 := by omega
  have m2 : (128 + c / 64 % 64) % 256 = 128 + c / 64 % 64 := by omega
  have m3 : (128 + c / 4096 % 64) % 256 = 128 + c / 4096 % 64 := by omega
  rw [m1, m2, m3]
  by_cases c1 : c < 128
  · rw [if_pos c1, if_pos c1, show c % 256 = c by omega]
  · rw [if_neg c1, if_neg c1]
    by_cases c2 : c < 2048
    · rw [if_pos c2, if_pos c2, show (192 + c / 64) % 256 = 192 + c / 64 by omega]
    · rw [if_neg c2, if_neg c2]
      by_cases c3 : c < 65536
      · rw [if_pos c3, if_pos c3, show (224 + c / 4096) % 256 = 224 + c / 4096 by omega]
      · rw [if_neg c3, if_neg c3, show (240 + c / 262144) % 256 = 240 + c / 262144 by omega]
theorem ref_bytes {a c : Int} (h : chk a c = 0) : ref08_Bytes.f a c = some (if a = 0 then enc c else bytesOf a) := by
  rcases (chk0 a c).1 h with ⟨rfl, hb⟩ | ha
  · have p := (prn_iff c).1 hb
    unfold ref08_Bytes.f
    rw [if_pos rfl, if_pos rfl, ref_put c (by omega) (by omega)]
  · obtain ⟨j, rfl⟩ : ∃ j : Nat, a = j := ⟨a.toNat, by omega⟩
    have key : ∀ j : Nat, j < 16 → 1 ≤ j → ref08_Bytes.f j 0 = some (bytesOf j) := by decide +kernel
    rw [if_neg (by omega), ha.2.2]
    exact key j (by omega) (by omega)

theorem loop (x5 : List Int) (x6 a c : Int) (L : List ByteArray) (hL : L.length ≤ 1000) (hE : ∀ k, ((whispererref08_Check.f (k + 1) a c).bind fun t137 => (if t137 = 0 then (if x6 = 0 then ((Hand.ref08_Bytes.f a c).bind fun t138 => (some ((strOfNums x5).toList == (strOfNums t138).toList))) else (some false)) else (if x6 = t137 then (some ((x5.length : Int) == 0)) else (some false)))) = some true) (d : Nat) :
    ∀ (i k : Nat), i + d = L.length → whispererlaw08_KeysOf.l0 (k + 2 + d) x5 x6 L L (L.length : Int) (i : Int) a c = some true := by
  induction d with
  | zero =>
    intro i k h
    show whispererlaw08_KeysOf.l0 (k + 1 + 1) x5 x6 L L (L.length : Int) (i : Int) a c = some true
    simp only [whispererlaw08_KeysOf.l0]
    rw [if_neg (by omega)]
    exact hE k
  | succ d ih =>
    intro i k h
    show whispererlaw08_KeysOf.l0 ((k + 2 + d) + 1) x5 x6 L L (L.length : Int) (i : Int) a c = some true
    simp only [whispererlaw08_KeysOf.l0]
    rw [if_pos (by omega), if_pos (by omega), if_pos (by omega), if_pos (by omega), w64 (by omega) (by omega)]
    exact ih (i + 1) k (by omega)

theorem KeysOf (c a b : Int) (hc : (Lit.int .i64 c).wf = true) : whispererlaw08_KeysOf.f 40 c a b = some true := by
  have hN : Hand.keys_Names.f = whispererref08_Names.f := by rfl
  have hE : ∀ k, ((whispererref08_Check.f (k + 1) a b).bind fun t137 => (if t137 = 0 then (if (if chk a b = 0 then (if a = 0 then (enc b, (0 : Int)) else (bytesOf a, 0)) else ([], chk a b)).2 = 0 then ((Hand.ref08_Bytes.f a b).bind fun t138 => (some ((strOfNums (if chk a b = 0 then (if a = 0 then (enc b, (0 : Int)) else (bytesOf a, 0)) else ([], chk a b)).1).toList == (strOfNums t138).toList))) else (some false)) else (if (if chk a b = 0 then (if a = 0 then (enc b, (0 : Int)) else (bytesOf a, 0)) else ([], chk a b)).2 = t137 then (some (((if chk a b = 0 then (if a = 0 then (enc b, (0 : Int)) else (bytesOf a, 0)) else ([], chk a b)).1.length : Int) == 0)) else (some false)))) = some true := by
    intro k
    rw [ref_chk]
    simp only [Option.bind_some]
    by_cases h : chk a b = 0
    · rw [if_pos h, ref_bytes h]
      simp only [if_pos h]
      by_cases h0 : a = 0
      · simp [h0]
      · simp [h0]
    · rw [if_neg h]
      simp [h]
  unfold whispererlaw08_KeysOf.f
  rw [bytes_eq a b 38, hN]
  have hn : whispererref08_Names.f = some (namesBA.take 16) := by rfl
  rw [hn, alive_of 35, of_eq c 39 hc, ref_of c 38]
  simp only [Option.bind_some, if_true]
  rw [if_neg (by simp)]
  have hl : (((namesBA.take 16).length : Int) != ((namesBA.take 16).length : Int)) = false := by simp
  rw [hl]
  simp only [whispererlaw08_KeysOf.j0, Bool.false_eq_true, if_false]
  exact loop _ _ a b (namesBA.take 16) (by decide) hE 16 0 21 (by decide)

end Go.Proofs.YtanlgkmijegefaaDoor.Pure
