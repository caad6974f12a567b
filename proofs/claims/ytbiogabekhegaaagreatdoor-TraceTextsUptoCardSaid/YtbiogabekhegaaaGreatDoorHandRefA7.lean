/- whispererref06.Text and Read in closed form: they are attrs.Text and attrs.Read. -/
import Derived.Test.YtbiogabekhegaaaGreatDoorHandPlainA7
import Derived.Test.YtbiogabekhegaaaGreatDoorPReadx2
namespace Go.Proofs.YtbiogabekhegaaaGreatDoor.Hand
open Go.RowKit Go.Proofs.YtbiogabekhegaaaGreatDoorW.PrintWords Go.Proofs.YtbiogabekhegaaaGreatDoorW.PrintLast Go.Proofs.YtbiogabekhegaaaGreatDoor.PRead
set_option linter.unusedVariables false
set_option linter.unusedSimpArgs false

theorem LeO_up {α : Type} {f : Nat → Option α} (h : ∀ k, LeO (f k) (f (k + 1))) {k : Nat} {r : α} (hr : f k = some r) : ∀ m, f (k + m) = some r
  | 0 => hr
  | m + 1 => h (k + m) r (LeO_up h hr m)
theorem dec_up (b u K : Nat) (hb : 2 ≤ b) (h16 : b ≤ 16) (hu : u < 9223372036854775808) (n : Nat) (hn : (digs b u).length ≤ n) (hn2 : n ≤ 1000) (hK : n + 1 ≤ K) : PDecimal.whispererref06_Decimal.f K (u : Int) (b : Int) = some (ba (digs b u)) := by
  obtain ⟨m, rfl⟩ : ∃ m, K = n + 1 + m := ⟨K - (n + 1), by omega⟩
  exact LeO_up (f := fun k => PDecimal.whispererref06_Decimal.f k (u : Int) (b : Int)) (fun k => PDecimal.whispererref06_Decimal.mono _ _ k) (dec_eq b u n hb h16 hu hn hn2) m
theorem dec_small (b u K : Nat) (hb : 2 ≤ b) (h16 : b ≤ 16) (hu : u < 4294967296) (hK : 40 ≤ K) : PDecimal.whispererref06_Decimal.f K (u : Int) (b : Int) = some (ba (digs b u)) :=
  dec_up b u K hb h16 (by omega) 32 (digs_len hb h16 (by omega) (Nat.lt_of_lt_of_le hu (Nat.le_trans (show 4294967296 ≤ 2 ^ 32 by decide) (Nat.pow_le_pow_left hb 32)))) (by omega) (by omega)

theorem rbit_run (d : Nat) : ∀ (x i c k : Nat), x < 4294967296 → c + d = i → i ≤ 100 → whispererref06_bit.l0 (d + 1 + k) x i c = some (decide (x / 2 ^ d % 2 = 1)) := by
  induction d with
  | zero =>
    intro x i c k hx hc hi
    rw [show 0 + 1 + k = k + 1 by omega]
    simp only [whispererref06_bit.l0]
    rw [if_neg (by omega)]
    have e : Int.tmod (x : Int) 2 = ((x % 2 : Nat) : Int) := by rw [Int.tmod_eq_emod_of_nonneg (by omega)]; omega
    rw [e]
    congr 1
    rw [show x / 2 ^ 0 = x by simp]
    by_cases h : x % 2 = 1
    · rw [h]; decide
    · rw [show x % 2 = 0 by omega]; decide
  | succ d ih =>
    intro x i c k hx hc hi
    rw [show d + 1 + 1 + k = (d + 1 + k) + 1 by omega]
    simp only [whispererref06_bit.l0]
    rw [if_pos (by omega)]
    have e : (Int.tdiv (x : Int) 2) % 4294967296 = ((x / 2 : Nat) : Int) := by rw [Int.tdiv_eq_ediv_of_nonneg (by omega)]; omega
    have e2 : wrap64 ((c : Int) + 1) = ((c + 1 : Nat) : Int) := by rw [w64 (by omega) (by omega)]; omega
    rw [e, e2, ih (x / 2) i (c + 1) k (by omega) (by omega) hi, Nat.div_div_eq_div_mul, show 2 * 2 ^ d = 2 ^ (d + 1) by rw [Nat.pow_succ, Nat.mul_comm]]
theorem rbit_eq (x i k : Nat) (hx : x < 4294967296) (hi : i ≤ 100) (hk : i < k) : whispererref06_bit.f k x i = some (decide (x / 2 ^ i % 2 = 1)) := by
  obtain ⟨m, rfl⟩ : ∃ m, k = i + 1 + m := ⟨k - (i + 1), by omega⟩
  exact rbit_run i x i 0 m hx (by omega) hi

/-! Text -/
def plusL (xs : List ByteArray) : List UInt8 := (xs.map fun x => 43 :: x.data.toList).flatten
theorem plusL_snoc (xs : List ByteArray) (x : ByteArray) : plusL (xs ++ [x]) = plusL xs ++ 43 :: x.data.toList := by simp [plusL]
theorem plusL_len (xs : List ByteArray) (n : Nat) (h : Small xs) : (plusL xs).length ≤ 200 := by
  obtain ⟨h8, h20⟩ := h
  have : ∀ xs : List ByteArray, (∀ x, x ∈ xs → x.data.toList.length ≤ 20) → (plusL xs).length ≤ 21 * xs.length := by
    intro xs
    induction xs with
    | nil => intro _; simp [plusL]
    | cons a r ih =>
      intro h
      have h1 := h a (by simp)
      have h2 := ih (fun x hx => h x (by simp [hx]))
      unfold plusL at h2 ⊢
      simp only [List.map_cons, List.flatten_cons, List.length_append, List.length_cons] at h2 ⊢
      omega
  have := this xs h20
  omega
theorem plusL_join : ∀ xs : List ByteArray, xs ≠ [] → (plusL xs).drop 1 = joinB 43 (xs.map (·.data.toList))
  | [], h => absurd rfl h
  | [x], _ => by simp [plusL, joinB]
  | x :: y :: r, _ => by
    have ih := plusL_join (y :: r) (by simp)
    rw [List.map_cons, join_cons 43 _ _ (by simp), ← ih]
    simp [plusL]
theorem ba_size (l : List UInt8) : (ba l).size = l.length := by simp [ba, ByteArray.size]
theorem ba_append (l m : List UInt8) : ba l ++ ba m = ba (l ++ m) := ba_ext (by rw [ba_app, data_ba, data_ba, data_ba])
theorem ba_lit (l : List UInt8) : (⟨l.toArray⟩ : ByteArray) = ba l := rfl
theorem ba_extract1 (l : List UInt8) : (ba l).extract 1 (ba l).size = ba (l.drop 1) := by
  apply ba_ext
  rw [Lib.extract_to_end, data_ba, data_ba]
theorem textV_eq (fl mn tm : Nat) : textV fl mn tm = ba ((plusL (partL fl)).drop 1 ++ (32 :: digs 10 mn) ++ (32 :: digs 10 tm)) := by
  apply ba_ext
  rw [data_ba, plusL_join _ (part_ne fl)]
  unfold textV wordsV
  rw [show ∀ l : List UInt8, (⟨l.toArray⟩ : ByteArray).data.toList = l from fun l => by simp, libjoin_eq, join_cons 32 _ _ (by simp), join_cons 32 _ _ (by simp)]
  rw [show (itoaV mn).data.toList = digs 10 mn by rw [itoaV, itoa_dec, digs_dec], show (itoaV tm).data.toList = digs 10 tm by rw [itoaV, itoa_dec, digs_dec]]
  rw [show (joinV (partL fl)).data.toList = joinB 43 ((partL fl).map (·.data.toList)) by rw [joinV, libjoin_eq]]
  simp [joinB]
theorem text_end (P : List UInt8) (fl mn tm : Nat) (hP : P = plusL (allL fl)) (hfl : fl < 4294967296) (hmn : mn < 256) (htm : tm < 256) (k : Nat) (hk : 41 ≤ k) : whispererref06_Text.j1 k (ba P) fl mn tm = some (textV fl mn tm) := by
  obtain ⟨k, rfl⟩ : ∃ m, k = m + 1 := ⟨k - 1, by omega⟩
  have hlen := plusL_len (allL fl) 0 (all_small fl hfl)
  rw [← hP] at hlen
  have d1 := dec_small 10 mn k (by omega) (by omega) (by omega) (by omega)
  have d2 := dec_small 10 tm k (by omega) (by omega) (by omega) (by omega)
  have l1 : (digs 10 mn).length ≤ 10 := digs_len (by omega) (by omega) (by omega) (by omega)
  have l2 : (digs 10 tm).length ≤ 10 := digs_len (by omega) (by omega) (by omega) (by omega)
  have e1 : wrap64 (mn : Int) = (mn : Int) := w64 (by omega) (by omega)
  have e2 : wrap64 (tm : Int) = (tm : Int) := w64 (by omega) (by omega)
  have e10 : (10 : Int) = ((10 : Nat) : Int) := rfl
  simp only [whispererref06_Text.j1]
  rw [textV_eq]
  by_cases h0 : P = []
  · have ha : allL fl = [] := by
      cases hh : allL fl with
      | nil => rfl
      | cons x r => rw [hP, hh] at h0; simp [plusL] at h0
    have hp : partL fl = [⟨#[45]⟩] := by unfold partL; rw [ha]; rfl
    have hx : (⟨#[43, 45]⟩ : ByteArray).extract 1 (⟨#[43, 45]⟩ : ByteArray).size = ba [45] := by decide +kernel
    rw [if_pos (by rw [h0]; decide +kernel), if_pos (by omega), hx, if_pos (by decide +kernel), e1, e10, d1]
    simp only [Option.bind_some]
    rw [e2, d2]
    simp only [Option.bind_some]
    rw [show (⟨#[32]⟩ : ByteArray) = ba [32] from rfl]
    simp only [ba_append, ba_size, List.length_append, List.length_cons, List.length_nil]
    rw [if_pos (by omega), if_pos (by omega), if_pos (by omega), hp]
    simp [plusL]
  · have hP1 : 1 ≤ P.length := by
      rcases Nat.eq_zero_or_pos P.length with h | h
      · exact absurd (List.eq_nil_of_length_eq_zero h) h0
      · exact h
    have hp : partL fl = allL fl := by
      unfold partL
      rw [if_neg]
      intro h
      exact h0 (by rw [hP, List.eq_nil_of_length_eq_zero h]; rfl)
    rw [if_neg (by rw [ByteArray.toList_eq, data_ba]; exact h0), if_pos (by rw [ba_size]; omega), ba_extract1, e1, e10, d1]
    simp only [Option.bind_some]
    rw [e2, d2]
    simp only [Option.bind_some]
    rw [show (⟨#[32]⟩ : ByteArray) = ba [32] from rfl]
    simp only [ba_append, ba_size, List.length_append, List.length_cons, List.length_nil, List.length_drop]
    rw [if_pos (by omega), if_pos (by omega), if_pos (by omega), if_pos (by omega), hp, ← hP]
    simp
theorem names_f : whispererref06_Names.f = some (nameL.map ba) := rfl
theorem names_rd (j : Nat) (hj : j < 7) : rdOf ByteArray.empty (nameL.map ba) (j : Int) = nm j := by
  obtain rfl | rfl | rfl | rfl | rfl | rfl | rfl : j = 0 ∨ j = 1 ∨ j = 2 ∨ j = 3 ∨ j = 4 ∨ j = 5 ∨ j = 6 := by omega
  all_goals rfl
theorem text_run (fl mn tm : Nat) (hfl : fl < 4294967296) (hmn : mn < 256) (htm : tm < 256) (d : Nat) : ∀ (j k : Nat), j + d = 7 → 60 ≤ k →
    whispererref06_Text.l0 (d + k) (ba (plusL (flagL fl j))) (nameL.map ba) j fl mn tm = some (textV fl mn tm) := by
  induction d with
  | zero =>
    intro j k hj hk
    obtain rfl : j = 7 := by omega
    obtain ⟨k, rfl⟩ : ∃ m, k = m + 1 := ⟨k - 1, by omega⟩
    rw [show 0 + (k + 1) = k + 1 by omega]
    simp only [whispererref06_Text.l0]
    have hlen := plusL_len (allL fl) 0 (all_small fl hfl)
    have e : ((fl : Int) - Int.tmod fl 128) % 4294967296 = ((fl - fl % 128 : Nat) : Int) := by rw [Int.tmod_eq_emod_of_nonneg (by omega)]; omega
    rw [if_neg (by decide), e]
    by_cases hr : fl - fl % 128 = 0
    · rw [if_neg (by omega)]
      exact text_end _ fl mn tm (by unfold allL restL; rw [if_pos hr, List.append_nil]) hfl hmn htm k (by omega)
    · have hall : plusL (allL fl) = plusL (flagL fl 7) ++ 43 :: 120 :: digs 16 (fl - fl % 128) := by
        unfold allL restL
        rw [if_neg hr, plusL_snoc]
      rw [hall, List.length_append] at hlen
      rw [if_pos (by omega), show (16 : Int) = ((16 : Nat) : Int) from rfl, dec_small 16 _ k (by omega) (by omega) (by omega) (by omega)]
      simp only [Option.bind_some]
      rw [show (⟨#[43, 120]⟩ : ByteArray) = ba [43, 120] from rfl]
      simp only [ba_append, ba_size, List.length_append, List.length_cons, List.length_nil] at hlen ⊢
      rw [if_pos (by omega), if_pos (by omega)]
      exact text_end _ fl mn tm (by rw [hall]; simp) hfl hmn htm k (by omega)
  | succ d ih =>
    intro j k hj hk
    rw [show d + 1 + k = (d + k) + 1 by omega]
    simp only [whispererref06_Text.l0]
    have e2 : wrap64 ((j : Int) + 1) = ((j + 1 : Nat) : Int) := by rw [w64 (by omega) (by omega)]; omega
    have hl : ((nameL.map ba).length : Int) = 7 := by decide
    have hs := flag_small fl j (by omega)
    have hlen := plusL_len (flagL fl j) 0 ⟨by omega, hs.2⟩
    have hnm : ∀ j, j < 7 → (nm j).data.toList.length ≤ 20 := by decide
    have ih := ih (j + 1) k (by omega) hk
    rw [hl, if_pos (by omega), rbit_eq fl j (d + k) hfl (by omega) (by omega)]
    simp only [Option.bind_some]
    by_cases hb : fl / 2 ^ j % 2 = 1
    · have hn := hnm j (by omega)
      rw [decide_eq_true hb, if_pos rfl, names_rd j (by omega), show (⟨#[43]⟩ : ByteArray) = ba [43] from rfl, ← ba_data (nm j)]
      simp only [ba_append, ba_size, List.length_append, List.length_cons, List.length_nil, data_ba]
      rw [if_pos (by omega), if_pos (by omega), if_pos (by omega), e2]
      rw [show flagL fl (j + 1) = flagL fl j ++ [nm j] by rw [flagL, if_pos hb], plusL_snoc] at ih
      simpa using ih
    · rw [decide_eq_false hb, if_neg (by decide), e2]
      rw [show flagL fl (j + 1) = flagL fl j by rw [flagL, if_neg hb]] at ih
      exact ih
theorem ref_text (fl mn tm : Nat) (hfl : fl < 4294967296) (hmn : mn < 256) (htm : tm < 256) (k : Nat) (hk : 70 ≤ k) : whispererref06_Text.f k fl mn tm = some (textV fl mn tm) := by
  unfold whispererref06_Text.f
  rw [names_f]
  simp only [Option.bind_some]
  obtain ⟨m, rfl⟩ : ∃ m, k = 7 + m := ⟨k - 7, by omega⟩
  exact text_run fl mn tm hfl hmn htm 7 0 m (by omega) (by omega)
end Go.Proofs.YtbiogabekhegaaaGreatDoor.Hand

namespace Go.Proofs.YtbiogabekhegaaaGreatDoor.Hand
open Go.RowKit Go.Proofs.YtbiogabekhegaaaGreatDoorW.PrintWords Go.Proofs.YtbiogabekhegaaaGreatDoorW.PrintLast Go.Proofs.YtbiogabekhegaaaGreatDoor.PRead
set_option linter.unusedVariables false
set_option linter.unusedSimpArgs false

def nvF (x : ByteArray) : Nat → Nat → Nat
  | 0, _ => 0
  | d + 1, j => (if x = nm j then 2 ^ j else 0) + nvF x d (j + 1)
def isX (x : ByteArray) : Bool := decide (x.size > 1) && decide (x.data.toList.head? = some 120)
def hexP (x : ByteArray) : Nat := if isX x = true then (numB 16 8 (x.data.toList.drop 1)).toNat else 0
def pv (x : ByteArray) : Nat := nvF x 7 0 + hexP x
def flagsF : Nat → List ByteArray → Nat
  | acc, [] => acc
  | acc, x :: r => flagsF ((acc + pv x) % 4294967296) r
theorem nvF_le (x : ByteArray) : ∀ d j, j + d = 7 → nvF x d j + 2 ^ j ≤ 128
  | 0, j, h => by obtain rfl : j = 7 := by omega
                  simp [nvF]
  | d + 1, j, h => by
    have := nvF_le x d (j + 1) (by omega)
    have hp : 2 ^ (j + 1) = 2 ^ j * 2 := Nat.pow_succ 2 j
    unfold nvF
    split <;> omega
theorem numB_lt (l : List UInt8) : numB 16 8 l < 4294967296 := by
  unfold numB
  split
  · omega
  · rename_i h
    split
    · rename_i hd
      have h1 := valB_lt 16 l (by omega) ((isDigB_iff 16 l).1 hd)
      have h2 : l.length ≤ 8 := by
        by_cases e : 8 < l.length
        · exact absurd (.inr (.inl e)) h
        · omega
      have h3 : 16 ^ l.length ≤ 16 ^ 8 := Nat.pow_le_pow_right (by decide) h2
      have : (16 : Nat) ^ 8 = 4294967296 := by decide
      omega
    · omega
theorem flagsF_lt : ∀ (l : List ByteArray) (acc : Nat), acc < 4294967296 → flagsF acc l < 4294967296
  | [], acc, h => h
  | x :: r, acc, h => flagsF_lt r _ (Nat.mod_lt _ (by omega))

/-! the loops -/
theorem rdOf_at (L : List ByteArray) (i : Nat) (h : i < L.length) : rdOf ByteArray.empty L (i : Int) = L[i]'h := by simp [rdOf, h]
theorem head_bt (x : ByteArray) (h : x.size > 1) : (bt x 0 == 120) = decide (x.data.toList.head? = some 120) := by
  obtain ⟨c, hd, hb, _⟩ := bt_drop x 0 (by omega)
  rw [show ((0 : Nat) : Int) = 0 from rfl] at hb
  rw [List.drop_zero] at hd
  rw [hb, hd]
  simp only [List.head?_cons, Option.some.injEq]
  by_cases hc : c = 120
  · subst hc; rfl
  · rw [decide_eq_false hc, beq_eq_false_iff_ne]
    intro e
    exact hc (UInt8.toNat_inj.mp (by show c.toNat = 120; omega))
theorem names_run (L : List ByteArray) (i : Nat) (hi : i < L.length) (d : Nat) : ∀ (j k acc : Nat), j + d = 7 → acc < 4294967296 →
    whispererref06_flags.l1 (d + 1 + k) acc L (nameL.map ba) i ((2 ^ j : Nat) : Int) j = whispererref06_flags.j2 k (((acc + nvF (L[i]'hi) d j) % 4294967296 : Nat) : Int) L (nameL.map ba) i (isX (L[i]'hi)) := by
  induction d with
  | zero =>
    intro j k acc hj ha
    obtain rfl : j = 7 := by omega
    rw [show 0 + 1 + k = k + 1 by omega]
    simp only [whispererref06_flags.l1]
    rw [if_neg (by decide), if_pos (by omega), if_pos (by omega), rdOf_at L i hi]
    have e : (acc + nvF (L[i]'hi) 0 7) % 4294967296 = acc := by simp [nvF]; omega
    rw [e]
    unfold isX
    by_cases hs : (L[i]'hi).size > 1
    · rw [if_pos (by omega), if_pos (by omega), head_bt _ hs, decide_eq_true hs, Bool.true_and]
    · rw [if_neg (by omega), decide_eq_false hs, Bool.false_and]
  | succ d ih =>
    intro j k acc hj ha
    rw [show d + 1 + 1 + k = (d + 1 + k) + 1 by omega]
    simp only [whispererref06_flags.l1]
    have e2 : wrap64 ((j : Int) + 1) = ((j + 1 : Nat) : Int) := by rw [w64 (by omega) (by omega)]; omega
    have hl : ((nameL.map ba).length : Int) = 7 := by decide
    have hp : 2 ^ j ≤ 2 ^ 6 := Nat.pow_le_pow_right (by decide) (by omega)
    have h6 : (2 : Nat) ^ 6 = 64 := by decide
    have hp1 : 2 ^ (j + 1) = 2 ^ j * 2 := Nat.pow_succ 2 j
    have e3 : (((2 ^ j : Nat) : Int) * 2) % 4294967296 = ((2 ^ (j + 1) : Nat) : Int) := by rw [hp1]; omega
    rw [hl, if_pos (by omega), if_pos (by omega), if_pos (by omega), if_pos (by omega), rdOf_at L i hi, names_rd j (by omega), e2, e3]
    have hq := ba_beq (L[i]'hi) (nm j)
    by_cases hx : L[i]'hi = nm j
    · rw [if_pos (by rw [hx])]
      have e4 : ((acc : Int) + ((2 ^ j : Nat) : Int)) % 4294967296 = (((acc + 2 ^ j) % 4294967296 : Nat) : Int) := by omega
      rw [e4, ih (j + 1) k _ (by omega) (Nat.mod_lt _ (by omega))]
      congr 2
      show _ = (acc + ((if L[i]'hi = nm j then 2 ^ j else 0) + nvF (L[i]'hi) d (j + 1))) % 4294967296
      rw [if_pos hx]
      omega
    · rw [decide_eq_false hx, beq_eq_false_iff_ne] at hq
      rw [if_neg hq, ih (j + 1) k acc (by omega) ha]
      congr 2
      show _ = (acc + ((if L[i]'hi = nm j then 2 ^ j else 0) + nvF (L[i]'hi) d (j + 1))) % 4294967296
      rw [if_neg hx, Nat.zero_add]
theorem num_up (s : ByteArray) (b most K : Nat) (hb : 2 ≤ b) (h16 : b ≤ 16) (hm : most ≤ 1000000) (hp : b ^ most ≤ 4611686018427387904) (hK : most + 3 ≤ K) : PNumber.whispererref06_Number.f K s (b : Int) (most : Int) = some (numB b most s.data.toList) := by
  obtain ⟨m, rfl⟩ : ∃ m, K = m + 3 := ⟨K - 3, by omega⟩
  exact num_eq s b most m hb h16 hm hp (by omega)
theorem tail_data (x : ByteArray) : (x.extract 1 x.size).data.toList = x.data.toList.drop 1 := Lib.extract_to_end x 1
theorem piece_run (L : List ByteArray) (i : Nat) (hi : i < L.length) (hi2 : i < 1000000) (k acc : Nat) (ha : acc < 4294967296) :
    whispererref06_flags.l0 (30 + k) acc L (nameL.map ba) i = whispererref06_flags.l0 (20 + k) (((acc + pv (L[i]'hi)) % 4294967296 : Nat) : Int) L (nameL.map ba) ((i + 1 : Nat) : Int) := by
  rw [show 30 + k = (7 + 1 + (21 + k)) + 1 by omega]
  have e2 : wrap64 ((i : Int) + 1) = ((i + 1 : Nat) : Int) := by rw [w64 (by omega) (by omega)]; omega
  rw [whispererref06_flags.l0, if_pos (by omega)]
  have hn := names_run L i hi 7 0 (21 + k) acc (by omega) ha
  rw [show ((2 ^ 0 : Nat) : Int) = 1 from rfl, show ((0 : Nat) : Int) = 0 from rfl] at hn
  rw [hn, show 21 + k = (20 + k) + 1 by omega]
  simp only [whispererref06_flags.j2]
  unfold pv hexP
  cases hX : isX (L[i]'hi)
  · simp only [Bool.false_eq_true, if_false, Nat.add_zero, e2]
  · have hs : (L[i]'hi).size > 1 := by
      unfold isX at hX
      rw [Bool.and_eq_true, decide_eq_true_eq] at hX
      exact hX.1
    have hnum := num_up ((L[i]'hi).extract 1 (L[i]'hi).size) 16 8 (20 + k) (by omega) (by omega) (by omega) (by decide) (by omega)
    rw [tail_data] at hnum
    have hlt := numB_lt ((L[i]'hi).data.toList.drop 1)
    rw [if_pos rfl, if_pos (by omega), if_pos (by omega), rdOf_at L i hi, if_pos (by omega), show (16 : Int) = ((16 : Nat) : Int) from rfl, show (8 : Int) = ((8 : Nat) : Int) from rfl, hnum]
    simp only [Option.bind_some]
    simp only [if_true, e2]
    generalize numB 16 8 ((L[i]'hi).data.toList.drop 1) = t at *
    by_cases ht : t > 0
    · rw [if_pos ht]
      congr 1
      omega
    · rw [if_neg ht]
      congr 1
      omega
theorem flags_run (L : List ByteArray) (hL : L.length ≤ 100000) (d : Nat) : ∀ (i k acc : Nat), i + d = L.length → acc < 4294967296 → whispererref06_flags.l0 (10 * d + 20 + k) acc L (nameL.map ba) i = some ((flagsF acc (L.drop i) : Nat) : Int) := by
  induction d with
  | zero =>
    intro i k acc hi ha
    rw [show 10 * 0 + 20 + k = (19 + k) + 1 by omega]
    simp only [whispererref06_flags.l0]
    rw [if_neg (by omega), List.drop_of_length_le (by omega)]
    rfl
  | succ d ih =>
    intro i k acc hi ha
    have hlt : i < L.length := by omega
    rw [show 10 * (d + 1) + 20 + k = 30 + (10 * d + k) by omega, piece_run L i hlt (by omega) _ acc ha, show 20 + (10 * d + k) = 10 * d + 20 + k by omega, ih (i + 1) k _ (by omega) (Nat.mod_lt _ (by omega))]
    rw [List.drop_eq_getElem_cons hlt]
    rfl
theorem cut_up (s : ByteArray) (c : UInt8) (K : Nat) (hs : s.size ≤ 10000) (hK : s.size + 1 ≤ K) : PCut.whispererref06_Cut.f K s (c.toNat : Int) = some (pieces c s) := by
  obtain ⟨m, rfl⟩ : ∃ m, K = m + 1 + s.size := ⟨K - (s.size + 1), by omega⟩
  exact refcut_eq s c m (by omega)
theorem ref_flags (s : ByteArray) (hs : s.size ≤ 10000) (K : Nat) (hK : 200000 ≤ K) : whispererref06_flags.f K s = some ((flagsF 0 (pieces 43 s) : Nat) : Int) := by
  have hl := pieces_length 43 s
  unfold whispererref06_flags.f
  rw [show (43 : Int) = ((43 : UInt8).toNat : Int) from rfl, cut_up s 43 K hs (by omega), names_f]
  simp only [Option.bind_some]
  obtain ⟨m, rfl⟩ : ∃ m, K = 10 * (pieces 43 s).length + 20 + m := ⟨K - (10 * (pieces 43 s).length + 20), by omega⟩
  exact flags_run (pieces 43 s) (by omega) (pieces 43 s).length 0 m 0 (by omega) (by omega)

/-! of a text the flags -/
theorem flagsF_sum : ∀ (l : List ByteArray) (acc : Nat), acc < 4294967296 → flagsF acc l = (acc + (l.map pv).sum) % 4294967296
  | [], acc, h => by simp [flagsF]; omega
  | x :: r, acc, h => by
    rw [flagsF, flagsF_sum r _ (Nat.mod_lt _ (by omega)), List.map_cons, List.sum_cons]
    omega
theorem pv_nm : ∀ j, j < 7 → pv (nm j) = 2 ^ j := by decide +kernel
theorem nvF_not (x : ByteArray) (h : ∀ j, j < 7 → x ≠ nm j) : ∀ d j, j + d = 7 → nvF x d j = 0
  | 0, j, _ => rfl
  | d + 1, j, hj => by
    unfold nvF
    rw [if_neg (h j (by omega)), nvF_not x h d (j + 1) (by omega)]
theorem pv_x (r : Nat) (h : r ≤ 4294967295) : pv ⟨(120 :: digs 16 r).toArray⟩ = r := by
  unfold pv
  rw [nvF_not _ (fun j hj e => (nm_head j hj).1 (by rw [← e]; simp)) 7 0 (by omega), Nat.zero_add]
  have hne := digs_ne 16 r
  have hd : (⟨(120 :: digs 16 r).toArray⟩ : ByteArray).data.toList = 120 :: digs 16 r := by simp
  have hX : isX ⟨(120 :: digs 16 r).toArray⟩ = true := by
    unfold isX
    rw [hd, Lib.size_eq, hd]
    simp
    cases hh : digs 16 r with
    | nil => exact absurd hh hne
    | cons a t => simp
  unfold hexP
  rw [if_pos hX, hd]
  show (numB 16 8 (digs 16 r)).toNat = r
  rw [numB_digs (by omega) (by omega) (digs_len (by omega) (by omega) (by omega) (show r < 16 ^ 8 from Nat.lt_of_le_of_lt h (by decide)))]
  exact Int.toNat_natCast r
theorem pv_dash : pv ⟨#[45]⟩ = 0 := by decide +kernel
theorem sum_flag (fl : Nat) : ∀ j, j ≤ 7 → ((flagL fl j).map pv).sum = fl % 2 ^ j
  | 0, _ => by simp [flagL]; omega
  | j + 1, hj => by
    have ih := sum_flag fl j (by omega)
    have hm : fl % 2 ^ (j + 1) = fl % 2 ^ j + 2 ^ j * (fl / 2 ^ j % 2) := by rw [Nat.pow_succ, Nat.mod_mul]
    unfold flagL
    split
    · rename_i hb
      rw [List.map_append, List.sum_append, ih, hm, hb, List.map_cons, pv_nm j (by omega)]
      simp
    · rename_i hb
      rw [ih, hm, show fl / 2 ^ j % 2 = 0 by omega]
      omega
theorem flags_part (fl : Nat) (hfl : fl < 4294967296) : flagsF 0 (partL fl) = fl := by
  rw [flagsF_sum _ 0 (by omega), Nat.zero_add]
  have hall : ((allL fl).map pv).sum = fl := by
    unfold allL restL
    have h7 := sum_flag fl 7 (by omega)
    have e7 : (2 : Nat) ^ 7 = 128 := by decide
    rw [List.map_append, List.sum_append, h7]
    split
    · simp; omega
    · rw [List.map_cons, List.sum_cons, pv_x _ (by omega)]
      simp; omega
  unfold partL
  split
  · rename_i h0
    have he : allL fl = [] := List.eq_nil_of_length_eq_zero h0
    rw [he] at hall
    have : fl = 0 := by simpa using hall.symm
    subst this
    rw [List.map_cons, List.sum_cons, pv_dash]
    rfl
  · rw [hall]; omega
theorem num_itoa (n : Nat) (h : n < 256) : numB 10 3 (itoaV n).data.toList = (n : Int) := by
  have e : (itoaV n).data.toList = digs 10 n := by rw [itoaV, itoa_dec, digs_dec]
  rw [e]
  exact numB_digs (by omega) (by omega) (digs_len (by omega) (by omega) (by omega) (by omega))
theorem joinV_size (fl : Nat) (h : fl < 4294967296) : (joinV (partL fl)).size ≤ 1000 := by
  have := small_join (part_small fl h) 43
  rw [Lib.size_eq]
  exact this
theorem numB_hi (l : List UInt8) : numB 10 3 l < 1000 := by
  unfold numB
  split
  · omega
  · rename_i h
    split
    · rename_i hd
      have h1 := valB_lt 10 l (by omega) ((isDigB_iff 10 l).1 hd)
      have h2 : l.length ≤ 3 := by
        by_cases e : 3 < l.length
        · exact absurd (.inr (.inl e)) h
        · omega
      have h3 : 10 ^ l.length ≤ 10 ^ 3 := Nat.pow_le_pow_right (by decide) h2
      have : (10 : Nat) ^ 3 = 1000 := by decide
      omega
    · omega
theorem three {α : Type} (a b c : α) : (([a, b, c] : List α).length : Int) = 3 := rfl
theorem ref_read (s : ByteArray) (hs : s.size ≤ 2000) (K : Nat) (hK : 300000 ≤ K) : whispererref06_Read.f K s = some (readV s) := by
  obtain ⟨k, rfl⟩ : ∃ m, K = m + 1 := ⟨K - 1, by omega⟩
  have jt : ∀ (L : List ByteArray) (x y : Int), whispererref06_Read.j0 (k + 1) s L x y true = some (0, 0, 0, 8) := fun L x y => by simp [whispererref06_Read.j0]
  have hsz := pieces_size 32 s
  unfold whispererref06_Read.f
  rw [show (32 : Int) = ((32 : UInt8).toNat : Int) from rfl, cut_up s 32 (k + 1) (by omega) (by omega)]
  simp only [Option.bind_some]
  rcases readV_cases s with ⟨fl, mn, tm, h1, h2, h3, he, hv⟩ | ⟨hv, hno⟩
  · rw [hv]
    have hp := pieces_text fl mn tm
    rw [← he] at hp
    rw [hp]
    have n1 := num_up (itoaV mn) 10 3 (k + 1) (by omega) (by omega) (by omega) (by decide) (by omega)
    have n2 := num_up (itoaV tm) 10 3 (k + 1) (by omega) (by omega) (by omega) (by decide) (by omega)
    rw [num_itoa mn h2] at n1
    rw [num_itoa tm h3] at n2
    have hf := ref_flags (joinV (partL fl)) (by have := joinV_size fl h1; omega) k (by omega)
    rw [pieces_part, flags_part fl h1] at hf
    rw [three, if_pos rfl, if_pos (by decide)]
    rw [show rdOf ByteArray.empty [joinV (partL fl), itoaV mn, itoaV tm] 1 = itoaV mn from rfl, show rdOf ByteArray.empty [joinV (partL fl), itoaV mn, itoaV tm] 2 = itoaV tm from rfl]
    rw [show (10 : Int) = ((10 : Nat) : Int) from rfl, show (3 : Int) = ((3 : Nat) : Int) from rfl, n1]
    simp only [Option.bind_some]
    rw [if_pos (by decide), n2]
    simp only [Option.bind_some]
    rw [if_neg (by omega), if_neg (by omega), if_neg (by omega), decide_eq_false (by omega)]
    simp only [whispererref06_Read.j0]
    rw [if_neg (by decide), if_pos (by rw [three]; decide), show rdOf ByteArray.empty [joinV (partL fl), itoaV mn, itoaV tm] 0 = joinV (partL fl) from rfl, hf]
    simp only [Option.bind_some]
    rw [show (mn : Int) % 256 = (mn : Int) by omega, show (tm : Int) % 256 = (tm : Int) by omega, ref_text fl mn tm h1 h2 h3 k (by omega)]
    simp only [Option.bind_some]
    rw [if_pos (by rw [he])]
  · rw [hv]
    by_cases h3 : (pieces 32 s).length = 3
    · obtain ⟨p0, p1, p2, hp⟩ : ∃ p0 p1 p2, pieces 32 s = [p0, p1, p2] := by
        match hh : pieces 32 s, h3 with
        | [p0, p1, p2], _ => exact ⟨p0, p1, p2, rfl⟩
      rw [hp] at hsz ⊢
      have hz0 := hsz p0 (by simp)
      have n1 := num_up p1 10 3 (k + 1) (by omega) (by omega) (by omega) (by decide) (by omega)
      have n2 := num_up p2 10 3 (k + 1) (by omega) (by omega) (by omega) (by decide) (by omega)
      rw [three, if_pos rfl, if_pos (by decide)]
      rw [show rdOf ByteArray.empty [p0, p1, p2] 1 = p1 from rfl, show rdOf ByteArray.empty [p0, p1, p2] 2 = p2 from rfl]
      rw [show (10 : Int) = ((10 : Nat) : Int) from rfl, show (3 : Int) = ((3 : Nat) : Int) from rfl, n1]
      simp only [Option.bind_some]
      rw [if_pos (by decide), n2]
      simp only [Option.bind_some]
      generalize numB 10 3 p1.data.toList = a at *
      generalize numB 10 3 p2.data.toList = b at *
      by_cases c1 : a < 0
      · rw [if_pos c1]; exact jt _ _ _
      · rw [if_neg c1]
        by_cases c2 : a > 255
        · rw [if_pos c2]; exact jt _ _ _
        · rw [if_neg c2]
          by_cases c3 : b < 0
          · rw [if_pos c3]; exact jt _ _ _
          · rw [if_neg c3]
            by_cases c4 : b > 255
            · rw [decide_eq_true c4]; exact jt _ _ _
            · rw [decide_eq_false c4]
              obtain ⟨a, rfl⟩ := Int.eq_ofNat_of_zero_le (show 0 ≤ a by omega)
              obtain ⟨b, rfl⟩ := Int.eq_ofNat_of_zero_le (show 0 ≤ b by omega)
              have hf := ref_flags p0 (by omega) k (by omega)
              have hlt := flagsF_lt (pieces 43 p0) 0 (by omega)
              simp only [whispererref06_Read.j0]
              rw [if_neg (by decide), if_pos (by simp), show rdOf ByteArray.empty [p0, p1, p2] 0 = p0 from rfl, hf]
              simp only [Option.bind_some]
              rw [show (a : Int) % 256 = (a : Int) by omega, show (b : Int) % 256 = (b : Int) by omega, ref_text _ a b hlt (by omega) (by omega) k (by omega)]
              simp only [Option.bind_some]
              have hq := ba_beq (textV (flagsF 0 (pieces 43 p0)) a b) s
              rw [decide_eq_false (fun e => hno _ a b hlt (by omega) (by omega) e.symm), beq_eq_false_iff_ne] at hq
              rw [if_neg hq]
    · rw [if_neg (by omega)]
end Go.Proofs.YtbiogabekhegaaaGreatDoor.Hand
