/- AttrsNames. -/
import Derived.Test.YtgdbkgjnonodjaaDoorHandPlainA
import Derived.Test.YtgdbkgjnonodjaaDoorPAttrsNamesx2
namespace Go.Proofs.YtgdbkgjnonodjaaDoor.Hand
open Go.RowKit Go.Proofs.YtgdbkgjnonodjaaDoorW.PrintWords Go.Proofs.YtgdbkgjnonodjaaDoorW.PrintLast Go.Proofs.YtgdbkgjnonodjaaDoor.PAttrsNames
set_option linter.unusedVariables false
set_option linter.unusedSimpArgs false
theorem names_alive : whispererlaw06_alive.f = some true := by
  unfold whispererlaw06_alive.f
  rw [alive_text]; simp only [Option.bind_some]
  rw [read_x80]; simp only [Option.bind_some]
  rw [read_ee]; simp only [Option.bind_some]
  decide +kernel
theorem joinB_snoc (c : UInt8) (p : List UInt8) : ∀ L : List (List UInt8), L ≠ [] → joinB c (L ++ [p]) = joinB c L ++ c :: p
  | [], h => absurd rfl h
  | [x], _ => rfl
  | x :: y :: r, _ => by
    rw [List.cons_append, join_cons c x _ (by simp), joinB_snoc c p (y :: r) (by simp), join_cons c x (y :: r) (by simp)]
    simp
def wantL (x j : Nat) : List UInt8 := joinB 43 ((flagL x j).map (·.data.toList))
theorem nm_ne : ∀ j, j < 7 → (nm j).data.toList ≠ [] := by decide
theorem want_nil (x j : Nat) (hj : j ≤ 7) : wantL x j = [] ↔ flagL x j = [] := by
  constructor
  · intro h
    cases hf : flagL x j with
    | nil => rfl
    | cons a r =>
      exfalso
      unfold wantL at h
      rw [hf] at h
      obtain ⟨i, hi, rfl⟩ := flagL_mem x j hj a (by rw [hf]; simp)
      cases r with
      | nil => exact nm_ne i hi h
      | cons b t =>
        rw [List.map_cons, join_cons 43 _ _ (by simp)] at h
        have := List.append_eq_nil_iff.mp h
        exact nm_ne i hi this.1
  · intro h
    unfold wantL
    rw [h]; rfl
theorem want_len (x j : Nat) (hj : j ≤ 7) : (wantL x j).length ≤ 1000 := by
  have hs := flag_small x j hj
  have := small_join (xs := flagL x j) ⟨by omega, hs.2⟩ 43
  rw [libjoin_eq] at this
  exact this
theorem shr_eq (x j : Nat) (hj : j < 32) : shr .u32 (x : Int) (j : Int) = ((x / 2 ^ j : Nat) : Int) := by
  unfold shr
  rw [show min ((j : Int).toNat) IntKind.u32.bits = j by rw [Int.toNat_natCast]; exact Nat.min_eq_left (by show j ≤ 32; omega)]
  norm_cast
theorem ba_sz (l : List UInt8) : (ba l).size = l.length := by simp [ba, ByteArray.size]
theorem ba_ap (l m : List UInt8) : ba l ++ ba m = ba (l ++ m) := ba_ext (by rw [ba_app, data_ba, data_ba, data_ba])
theorem names_tail (x : Nat) (hx : x < 128) (b c : Nat) (hb : b < 256) (hc : c < 256) (k : Nat) : whispererlaw06_AttrsNames.j2 (k + 1) (joinV (partL x)) x b c = some true := by
  have hx2 : x < 4294967296 := by omega
  have hW : ∃ l, joinV (partL x) = ba l ∧ l.length ≤ 1000 := ⟨(joinV (partL x)).data.toList, rfl, small_join (part_small x hx2) 43⟩
  obtain ⟨l, hl, hlen⟩ := hW
  have ht : ∀ mn tm : Nat, textV x mn tm = ba (l ++ 32 :: (Lib.itoa mn ++ 32 :: Lib.itoa tm)) := by
    intro mn tm
    apply ba_ext
    rw [data_ba]
    unfold textV wordsV
    rw [show ∀ l : List UInt8, (⟨l.toArray⟩ : ByteArray).data.toList = l from fun l => by simp, libjoin_eq, join_cons 32 _ _ (by simp), join_cons 32 _ _ (by simp), hl, data_ba]
    simp [joinB, itoaV]
  have e00 : textV x 0 0 = ba (l ++ [32, 48, 32, 48]) := by
    rw [ht 0 0, show Lib.itoa ((0 : Nat) : Int) = [48] by rw [itoa_dec, ← digs_dec, digs_small 0 (by omega)]; rfl]
    rfl
  have e1 : wrap64 ((l.length : Int) + 1) = ((l.length + 1 : Nat) : Int) := by rw [w64 (by omega) (by omega)]; omega
  have i1 : (Lib.itoa (b : Int)).length ≤ 30 := itoaV_len b hb |> fun h => by simpa [itoaV] using h
  simp only [whispererlaw06_AttrsNames.j2]
  rw [text_nat x b c hx2 hb hc]
  simp only [Option.bind_some]
  rw [ht b c, hl, ba_sz, ba_sz, e1]
  rw [if_neg (by simp only [List.length_append, List.length_cons]; omega), if_pos (by omega), if_pos (by simp only [List.length_append, List.length_cons]; omega), if_pos (by omega)]
  rw [if_pos (by
    rw [ByteArray.toList_eq, ByteArray.toList_eq, Int.toNat_natCast, Lib.extract_from_zero, data_ba, show (⟨#[32]⟩ : ByteArray) = ba [32] from rfl, ba_ap, data_ba]
    rw [List.take_append, show l.length + 1 - l.length = 1 by omega, List.take_of_length_le (by omega)]
    rfl), if_pos (by omega)]
  rw [show (⟨#[32, 48, 32, 48]⟩ : ByteArray) = ba [32, 48, 32, 48] from rfl, ba_ap, ← e00, read_text_f x 0 0 hx2 (by omega) (by omega)]
  simp
theorem names_run (x : Nat) (hx : x < 128) (b c : Nat) (hb : b < 256) (hc : c < 256) (d : Nat) : ∀ (j k : Nat), j + d = 7 → whispererlaw06_AttrsNames.l0 (d + 2 + k) (ba (wantL x j)) namesL 7 j x b c = some true := by
  induction d with
  | zero =>
    intro j k hj
    obtain rfl : j = 7 := by omega
    rw [show 0 + 2 + k = (k + 1) + 1 by omega]
    simp only [whispererlaw06_AttrsNames.l0]
    rw [if_neg (by omega)]
    have hall : allL x = flagL x 7 := by unfold allL restL; rw [if_pos (by omega), List.append_nil]
    have hn := want_nil x 7 (Nat.le_refl 7)
    have ht := names_tail x hx b c hb hc k
    by_cases h0 : wantL x 7 = []
    · rw [if_pos (by rw [h0]; decide +kernel)]
      have hp : partL x = [⟨#[45]⟩] := by unfold partL; rw [hall, hn.1 h0]; rfl
      rw [hp] at ht
      exact ht
    · rw [if_neg (by rw [ByteArray.toList_eq, data_ba]; exact h0)]
      have hp : partL x = flagL x 7 := by
        unfold partL
        rw [hall, if_neg]
        intro h
        exact h0 (hn.2 (List.eq_nil_of_length_eq_zero h))
      rw [hp] at ht
      have : ba (wantL x 7) = joinV (flagL x 7) := by unfold joinV wantL; rw [libjoin_eq]; rfl
      rw [this]
      exact ht
  | succ d ih =>
    intro j k hj
    have ih := ih (j + 1) k (by omega)
    have hlen := want_len x j (by omega)
    have hnm : ∀ j, j < 7 → (nm j).data.toList.length ≤ 20 := by decide
    have hn := hnm j (by omega)
    have hrd : rdOf ByteArray.empty namesL (j : Int) = ba (nm j).data.toList := by
      obtain rfl | rfl | rfl | rfl | rfl | rfl | rfl : j = 0 ∨ j = 1 ∨ j = 2 ∨ j = 3 ∨ j = 4 ∨ j = 5 ∨ j = 6 := by omega
      all_goals rfl
    have e2 : wrap64 ((j : Int) + 1) = ((j + 1 : Nat) : Int) := by rw [w64 (by omega) (by omega)]; omega
    have hl : (namesL.length : Int) = 7 := by decide
    have hb1 : bits .and .u32 ((x / 2 ^ j : Nat) : Int) 1 = ((x / 2 ^ j % 2 : Nat) : Int) := and1 (x / 2 ^ j) (Nat.lt_of_le_of_lt (Nat.div_le_self x _) (by omega))
    rw [show d + 1 + 2 + k = (d + 2 + k) + 1 by omega]
    simp only [whispererlaw06_AttrsNames.l0]
    rw [if_pos (by omega), if_pos (by omega), hl, if_pos (by omega), shr_eq x j (by omega), hb1, hrd, e2]
    by_cases hbit : x / 2 ^ j % 2 = 1
    · rw [if_pos (by omega)]
      have hf : flagL x (j + 1) = flagL x j ++ [nm j] := by rw [flagL, if_pos hbit]
      by_cases h0 : wantL x j = []
      · rw [if_pos (by rw [h0]; decide +kernel), ba_sz, ba_sz, if_pos (by omega), ba_ap, h0]
        have : wantL x (j + 1) = [] ++ (nm j).data.toList := by
          unfold wantL
          rw [hf, (want_nil x j (by omega)).1 h0]
          rfl
        rw [this] at ih
        exact ih
      · rw [if_neg (by rw [ByteArray.toList_eq, data_ba]; exact h0), show (⟨#[43]⟩ : ByteArray) = ba [43] from rfl]
        simp only [ba_ap, ba_sz, List.length_append, List.length_cons, List.length_nil]
        rw [if_pos (by omega), if_pos (by omega)]
        have hne : flagL x j ≠ [] := fun e => h0 ((want_nil x j (by omega)).2 e)
        have : wantL x (j + 1) = wantL x j ++ [43] ++ (nm j).data.toList := by
          unfold wantL
          rw [hf, List.map_append, List.map_cons, List.map_nil, joinB_snoc 43 _ _ (by simpa using hne)]
          simp
        rw [this] at ih
        exact ih
    · rw [if_neg (by omega)]
      have hf : wantL x (j + 1) = wantL x j := by unfold wantL; rw [flagL, if_neg hbit]
      rw [hf] at ih
      exact ih
theorem names_pure (n b c : Int) (a : Int) (h1 : 0 ≤ n) (h2 : n ≤ 255) (hb : 0 ≤ b ∧ b ≤ 255) (hc : 0 ≤ c ∧ c ≤ 255) : whispererlaw06_AttrsNames.f 20 n a b c = some true := by
  obtain ⟨n, rfl⟩ := Int.eq_ofNat_of_zero_le h1
  obtain ⟨b, rfl⟩ := Int.eq_ofNat_of_zero_le hb.1
  obtain ⟨c, rfl⟩ := Int.eq_ofNat_of_zero_le hc.1
  unfold whispererlaw06_AttrsNames.f
  rw [show Hand.attrs_Names.f = some namesL from rfl]
  simp only [Option.bind_some]
  rw [names_alive]
  simp only [Option.bind_some, if_true]
  simp only [whispererlaw06_AttrsNames.j0]
  have e : (Int.tmod (n : Int) 128) % 4294967296 = ((n % 128 : Nat) : Int) := by rw [Int.tmod_eq_emod_of_nonneg (by omega)]; omega
  rw [if_neg (by decide), e, show (namesL.length : Int) = 7 by decide]
  have := names_run (n % 128) (by omega) b c (by omega) (by omega) 7 0 10 (by omega)
  exact this
theorem AttrsNames_walk (a0 a1_0 a1_1 a1_2 : Int) (w0 : (Lit.int .u8 a0).wf = true) (w1_0 : (Lit.int .u32 a1_0).wf = true) (w1_1 : (Lit.int .u8 a1_1).wf = true) (w1_2 : (Lit.int .u8 a1_2).wf = true) (w : World) (HT : TabA w) :
    Calls Tryd.prog 8 #[.int .u8 a0, .agg #[.int .u32 a1_0, .int .u8 a1_1, .int .u8 a1_2]] w fun e w' => e = .returned (.bool true) ∧ Below w.heap.size w w' :=
  PAttrsNames.whispererlaw06_AttrsNames.calls 20 a0 a1_0 a1_1 a1_2 true w HT (names_pure a0 a1_1 a1_2 a1_0 (wf_u8 w0).1 (wf_u8 w0).2 (wf_u8 w1_1) (wf_u8 w1_2))
end Go.Proofs.YtgdbkgjnonodjaaDoor.Hand
