/- whispererref06.Text and Read in closed form: they are attrs.Text and attrs.Read. -/
import Derived.Test.YtgdbkgjnonodjaaDoorHandPlainA
import Derived.Test.YtgdbkgjnonodjaaDoorPReadx2
namespace Go.Proofs.YtgdbkgjnonodjaaDoor.Hand
open Go.RowKit Go.Proofs.YtgdbkgjnonodjaaDoorW.PrintWords Go.Proofs.YtgdbkgjnonodjaaDoorW.PrintLast Go.Proofs.YtgdbkgjnonodjaaDoor.PRead
set_option linter.unusedVariables false
set_option linter.unusedSimpArgs false

theorem LeO_up {α : Type} {f : Nat → Option α} (h : ∀ k, LeO (f k) (f (k + 1))) {k : Nat} {r : α} (hr : f k = some r) : ∀ m, f (k + m) = some r
  | 0 => hr
  | m + 1 => h (k + m) r (LeO_up h hr m)
theorem dec_up (b u K : Nat) (hb : 2 ≤ b) (h16 : b ≤ 16) (hu : u < 9223372036854775808) (n : Nat) (hn : (digs b u).length ≤ n) (hn2 : n ≤ 1000) (hK : n + 1 ≤ K) : PDecimal.whispererref06_Decimal.f K (u : Int) (b : Int) = some (ba (digs b u)) := by
  obtain ⟨m, rfl⟩ : ∃ m, K = n + 1 + m := ⟨K - (n + 1), by omega⟩
  exact LeO_up (f := fun k => PDecimal.whispererref06_Decimal.f k (u : Int) (b : Int)) (fun k => PDecimal.whispererref06_Decimal.mono _ _ k) (dec_eq b u n hb h16 hu hn hn2) m
theorem dec_small (b u K : Nat) (hb : 2 ≤ b) (h16 : b ≤ 16) (hu : u < 4294967296) (hK : 40 ≤ K) : PDecimal.whispererref06_Decimal.f K (u : Int) (b : Int) = some (ba (digs b u)) :=
  dec_up b u K hb h16 (by omega) 32 (digs_len hb h16 (by omega) (Nat.lt_of_lt_of_le hu (Nat.le_trans (show 4294967296 ≤ 2 ^ 32 by decide) (Nat.pow_le_pow_left hb 32)))) (by omega) (by omega)

theorem rbit_run (d : Nat) : ∀ (x i c k : Nat), x < 4294967296 → c + d = i → i ≤ 100 → whispererref06_bit.l0 (d + 1 + k) x i c = some (decide (x / 2 ^ d % 2 = 1)) := by
  induction d with
  | zero =>
    intro x i c k hx hc hi
    rw [show 0 + 1 + k = k + 1 by omega]
    simp only [whispererref06_bit.l0]
    rw [if_neg (by omega)]
    have e : Int.tmod (x : Int) 2 = ((x % 2 : Nat) : Int) := by rw [Int.tmod_eq_emod_of_nonneg (by omega)]; omega
    rw [e]
    congr 1
    rw [show x / 2 ^ 0 = x by simp]
    by_cases h : x % 2 = 1
    · rw [h]; decide
    · rw [show x % 2 = 0 by omega]; decide
  | succ d ih =>
    intro x i c k hx hc hi
    rw [show d + 1 + 1 + k = (d + 1 + k) + 1 by omega]
    simp only [whispererref06_bit.l0]
    rw [if_pos (by omega)]
    have e : (Int.tdiv (x : Int) 2) % 4294967296 = ((x / 2 : Nat) : Int) := by rw [Int.tdiv_eq_ediv_of_nonneg (by omega)]; omega
    have e2 : wrap64 ((c : Int) + 1) = ((c + 1 : Nat) : Int) := by rw [w64 (by omega) (by omega)]; omega
    rw [e, e2, ih (x / 2) i (c + 1) k (by omega) (by omega) hi, Nat.div_div_eq_div_mul, show 2 * 2 ^ d = 2 ^ (d + 1) by rw [Nat.pow_succ, Nat.mul_comm]]
theorem rbit_eq (x i k : Nat) (hx : x < 4294967296) (hi : i ≤ 100) (hk : i < k) : whispererref06_bit.f k x i = some (decide (x / 2 ^ i % 2 = 1)) := by
  obtain ⟨m, rfl⟩ : ∃ m, k = i + 1 + m := ⟨k - (i + 1), by omega⟩
  exact rbit_run i x i 0 m hx (by omega) hi

/-! Text -/
def plusL (xs : List ByteArray) : List UInt8 := (xs.map fun x => 43 :: x.data.toList).flatten
theorem plusL_snoc (xs : List ByteArray) (x : ByteArray) : plusL (xs ++ [x]) = plusL xs ++ 43 :: x.data.toList := by simp [plusL]
theorem plusL_len (xs : List ByteArray) (n : Nat) (h : Small xs) : (plusL xs).length ≤ 200 := by
  obtain ⟨h8, h20⟩ := h
  have : ∀ xs : List ByteArray, (∀ x, x ∈ xs → x.data.toList.length ≤ 20) → (plusL xs).length ≤ 21 * xs.length := by
    intro xs
    induction xs with
    | nil => intro _; simp [plusL]
    | cons a r ih =>
      intro h
      have h1 := h a (by simp)
      have h2 := ih (fun x hx => h x (by simp [hx]))
      unfold plusL at h2 ⊢
      simp only [List.map_cons, List.flatten_cons, List.length_append, List.length_cons] at h2 ⊢
      omega
  have := this xs h20
  omega
theorem plusL_join : ∀ xs : List ByteArray, xs ≠ [] → (plusL xs).drop 1 = joinB 43 (xs.map (·.data.toList))
  | [], h => absurd rfl h
  | [x], _ => by simp [plusL, joinB]
  | x :: y :: r, _ => by
    have ih := plusL_join (y :: r) (by simp)
    rw [List.map_cons, join_cons 43 _ _ (by simp), ← ih]
    simp [plusL]
theorem ba_size (l : List UInt8) : (ba l).size = l.length := by simp [ba, ByteArray.size]
theorem ba_append (l m : List UInt8) : ba l ++ ba m = ba (l ++ m) := ba_ext (by rw [ba_app, data_ba, data_ba, data_ba])
theorem ba_lit (l : List UInt8) : (⟨l.toArray⟩ : ByteArray) = ba l := rfl
theorem ba_extract1 (l : List UInt8) : (ba l).extract 1 (ba l).size = ba (l.drop 1) := by
  apply ba_ext
  rw [Lib.extract_to_end, data_ba, data_ba]
theorem textV_eq (fl mn tm : Nat) : textV fl mn tm = ba ((plusL (partL fl)).drop 1 ++ (32 :: digs 10 mn) ++ (32 :: digs 10 tm)) := by
  apply ba_ext
  rw [data_ba, plusL_join _ (part_ne fl)]
  unfold textV wordsV
  rw [show ∀ l : List UInt8, (⟨l.toArray⟩ : ByteArray).data.toList = l from fun l => by simp, libjoin_eq, join_cons 32 _ _ (by simp), join_cons 32 _ _ (by simp)]
  rw [show (itoaV mn).data.toList = digs 10 mn by rw [itoaV, itoa_dec, digs_dec], show (itoaV tm).data.toList = digs 10 tm by rw [itoaV, itoa_dec, digs_dec]]
  rw [show (joinV (partL fl)).data.toList = joinB 43 ((partL fl).map (·.data.toList)) by rw [joinV, libjoin_eq]]
  simp [joinB]
theorem text_end (P : List UInt8) (fl mn tm : Nat) (hP : P = plusL (allL fl)) (hfl : fl < 4294967296) (hmn : mn < 256) (htm : tm < 256) (k : Nat) (hk : 41 ≤ k) : whispererref06_Text.j1 k (ba P) fl mn tm = some (textV fl mn tm) := by
  obtain ⟨k, rfl⟩ : ∃ m, k = m + 1 := ⟨k - 1, by omega⟩
  have hlen := plusL_len (allL fl) 0 (all_small fl hfl)
  rw [← hP] at hlen
  have d1 := dec_small 10 mn k (by omega) (by omega) (by omega) (by omega)
  have d2 := dec_small 10 tm k (by omega) (by omega) (by omega) (by omega)
  have l1 : (digs 10 mn).length ≤ 10 := digs_len (by omega) (by omega) (by omega) (by omega)
  have l2 : (digs 10 tm).length ≤ 10 := digs_len (by omega) (by omega) (by omega) (by omega)
  have e1 : wrap64 (mn : Int) = (mn : Int) := w64 (by omega) (by omega)
  have e2 : wrap64 (tm : Int) = (tm : Int) := w64 (by omega) (by omega)
  have e10 : (10 : Int) = ((10 : Nat) : Int) := rfl
  simp only [whispererref06_Text.j1]
  rw [textV_eq]
  by_cases h0 : P = []
  · have ha : allL fl = [] := by
      cases hh : allL fl with
      | nil => rfl
      | cons x r => rw [hP, hh] at h0; simp [plusL] at h0
    have hp : partL fl = [⟨#[45]⟩] := by unfold partL; rw [ha]; rfl
    have hx : (⟨#[43, 45]⟩ : ByteArray).extract 1 (⟨#[43, 45]⟩ : ByteArray).size = ba [45] := by decide +kernel
    rw [if_pos (by rw [h0]; decide +kernel), if_pos (by omega), hx, if_pos (by decide +kernel), e1, e10, d1]
    simp only [Option.bind_some]
    rw [e2, d2]
    simp only [Option.bind_some]
    rw [show (⟨#[32]⟩ : ByteArray) = ba [32] from rfl]
    simp only [ba_append, ba_size, List.length_append, List.length_cons, List.length_nil]
    rw [if_pos (by omega), if_pos (by omega), if_pos (by omega), hp]
    simp [plusL]
  · have hP1 : 1 ≤ P.length := by
      rcases Nat.eq_zero_or_pos P.length with h | h
      · exact absurd (List.eq_nil_of_length_eq_zero h) h0
      · exact h
    have hp : partL fl = allL fl := by
      unfold partL
      rw [if_neg]
      intro h
      exact h0 (by rw [hP, List.eq_nil_of_length_eq_zero h]; rfl)
    rw [if_neg (by rw [ByteArray.toList_eq, data_ba]; exact h0), if_pos (by rw [ba_size]; omega), ba_extract1, e1, e10, d1]
    simp only [Option.bind_some]
    rw [e2, d2]
    simp only [Option.bind_some]
    rw [show (⟨#[32]⟩ : ByteArray) = ba [32] from rfl]
    simp only [ba_append, ba_size, List.length_append, List.length_cons, List.length_nil, List.length_drop]
    rw [if_pos (by omega), if_pos (by omega), if_pos (by omega), if_pos (by omega), hp, ← hP]
    simp
theorem names_f : whispererref06_Names.f = some (nameL.map ba) := rfl
theorem names_rd (j : Nat) (hj : j < 7) : rdOf ByteArray.empty (nameL.map ba) (j : Int) = nm j := by
  obtain rfl | rfl | rfl | rfl | rfl | rfl | rfl : j = 0 ∨ j = 1 ∨ j = 2 ∨ j = 3 ∨ j = 4 ∨ j = 5 ∨ j = 6 := by omega
  all_goals rfl
theorem text_run (fl mn tm : Nat) (hfl : fl < 4294967296) (hmn : mn < 256) (htm : tm < 256) (d : Nat) : ∀ (j k : Nat), j + d = 7 → 60 ≤ k →
    whispererref06_Text.l0 (d + k) (ba (plusL (flagL fl j))) (nameL.map ba) j fl mn tm = some (textV fl mn tm) := by
  induction d with
  | zero =>
    intro j k hj hk
    obtain rfl : j = 7 := by omega
    obtain ⟨k, rfl⟩ : ∃ m, k = m + 1 := ⟨k - 1, by omega⟩
    rw [show 0 + (k + 1) = k + 1 by omega]
    simp only [whispererref06_Text.l0]
    have hlen := plusL_len (allL fl) 0 (all_small fl hfl)
    have e : ((fl : Int) - Int.tmod fl 128) % 4294967296 = ((fl - fl % 128 : Nat) : Int) := by rw [Int.tmod_eq_emod_of_nonneg (by omega)]; omega
    rw [if_neg (by decide), e]
    by_cases hr : fl - fl % 128 = 0
    · rw [if_neg (by omega)]
      exact text_end _ fl mn tm (by unfold allL restL; rw [if_pos hr, List.append_nil]) hfl hmn htm k (by omega)
    · have hall : plusL (allL fl) = plusL (flagL fl 7) ++ 43 :: 120 :: digs 16 (fl - fl % 128) := by
        unfold allL restL
        rw [if_neg hr, plusL_snoc]
      rw [hall, List.length_append] at hlen
      rw [if_pos (by omega), show (16 : Int) = ((16 : Nat) : Int) from rfl, dec_small 16 _ k (by omega) (by omega) (by omega) (by omega)]
      simp only [Option.bind_some]
      rw [show (⟨#[43, 120]⟩ : ByteArray) = ba [43, 120] from rfl]
      simp only [ba_append, ba_size, List.length_append, List.length_cons, List.length_nil] at hlen ⊢
      rw [if_pos (by omega), if_pos (by omega)]
      exact text_end _ fl mn tm (by rw [hall]; simp) hfl hmn htm k (by omega)
  | succ d ih =>
    intro j k hj hk
    rw [show d + 1 + k = (d + k) + 1 by omega]
    simp only [whispererref06_Text.l0]
    have e2 : wrap64 ((j : Int) + 1) = ((j + 1 : Nat) : Int) := by rw [w64 (by omega) (by omega)]; omega
    have hl : ((nameL.map ba).length : Int) = 7 := by decide
    have hs := flag_small fl j (by omega)
    have hlen := plusL_len (flagL fl j) 0 ⟨by omega, hs.2⟩
    have hnm : ∀ j, j < 7 → (nm j).data.toList.length ≤ 20 := by decide
    have ih := ih (j + 1) k (by omega) hk
    rw [hl, if_pos (by omega), rbit_eq fl j (d + k) hfl (by omega) (by omega)]
    simp only [Option.bind_some]
    by_cases hb : fl / 2 ^ j % 2 = 1
    · have hn := hnm j (by omega)
      rw [decide_eq_true hb, if_pos rfl, names_rd j (by omega), show (⟨#[43]⟩ : ByteArray) = ba [43] from rfl, ← ba_data (nm j)]
      simp only [ba_append, ba_size, List.length_append, List.length_cons, List.length_nil, data_ba]
      rw [if_pos (by omega), if_pos (by omega), if_pos (by omega), e2]
      rw [show flagL fl (j + 1) = flagL fl j ++ [nm j] by rw [flagL, if_pos hb], plusL_snoc] at ih
      simpa using ih
    · rw [decide_eq_false hb, if_neg (by decide), e2]
      rw [show flagL fl (j + 1) = flagL fl j by rw [flagL, if_neg hb]] at ih
      exact ih
theorem ref_text (fl mn tm : Nat) (hfl : fl < 4294967296) (hmn : mn < 256) (htm : tm < 256) (k : Nat) (hk : 70 ≤ k) : whispererref06_Text.f k fl mn tm = some (textV fl mn tm) := by
  unfold whispererref06_Text.f
  rw [names_f]
  simp only [Option.bind_some]
  obtain ⟨m, rfl⟩ : ∃ m, k = 7 + m := ⟨k - 7, by omega⟩
  exact text_run fl mn tm hfl hmn htm 7 0 m (by omega) (by omega)
end Go.Proofs.YtgdbkgjnonodjaaDoor.Hand
