/- whispererref06.Read in closed form. -/
import Derived.Test.YtgdbkgjnonodjaaDoorHandRefA
namespace Go.Proofs.YtgdbkgjnonodjaaDoor.Hand
open Go.RowKit Go.Proofs.YtgdbkgjnonodjaaDoorW.PrintWords Go.Proofs.YtgdbkgjnonodjaaDoorW.PrintLast Go.Proofs.YtgdbkgjnonodjaaDoor.PRead
set_option linter.unusedVariables false
set_option linter.unusedSimpArgs false

def nvF (x : ByteArray) : Nat → Nat → Nat
  | 0, _ => 0
  | d + 1, j => (if x = nm j then 2 ^ j else 0) + nvF x d (j + 1)
def isX (x : ByteArray) : Bool := decide (x.size > 1) && decide (x.data.toList.head? = some 120)
def hexP (x : ByteArray) : Nat := if isX x = true then (numB 16 8 (x.data.toList.drop 1)).toNat else 0
def pv (x : ByteArray) : Nat := nvF x 7 0 + hexP x
def flagsF : Nat → List ByteArray → Nat
  | acc, [] => acc
  | acc, x :: r => flagsF ((acc + pv x) % 4294967296) r
theorem nvF_le (x : ByteArray) : ∀ d j, j + d = 7 → nvF x d j + 2 ^ j ≤ 128
  | 0, j, h => by obtain rfl : j = 7 := by omega
                  simp [nvF]
  | d + 1, j, h => by
    have := nvF_le x d (j + 1) (by omega)
    have hp : 2 ^ (j + 1) = 2 ^ j * 2 := Nat.pow_succ 2 j
    unfold nvF
    split <;> omega
theorem numB_lt (l : List UInt8) : numB 16 8 l < 4294967296 := by
  unfold numB
  split
  · omega
  · rename_i h
    split
    · rename_i hd
      have h1 := valB_lt 16 l (by omega) ((isDigB_iff 16 l).1 hd)
      have h2 : l.length ≤ 8 := by
        by_cases e : 8 < l.length
        · exact absurd (.inr (.inl e)) h
        · omega
      have h3 : 16 ^ l.length ≤ 16 ^ 8 := Nat.pow_le_pow_right (by decide) h2
      have : (16 : Nat) ^ 8 = 4294967296 := by decide
      omega
    · omega
theorem flagsF_lt : ∀ (l : List ByteArray) (acc : Nat), acc < 4294967296 → flagsF acc l < 4294967296
  | [], acc, h => h
  | x :: r, acc, h => flagsF_lt r _ (Nat.mod_lt _ (by omega))

/-! the loops -/
theorem rdOf_at (L : List ByteArray) (i : Nat) (h : i < L.length) : rdOf ByteArray.empty L (i : Int) = L[i]'h := by simp [rdOf, h]
theorem head_bt (x : ByteArray) (h : x.size > 1) : (bt x 0 == 120) = decide (x.data.toList.head? = some 120) := by
  obtain ⟨c, hd, hb, _⟩ := bt_drop x 0 (by omega)
  rw [show ((0 : Nat) : Int) = 0 from rfl] at hb
  rw [List.drop_zero] at hd
  rw [hb, hd]
  simp only [List.head?_cons, Option.some.injEq]
  by_cases hc : c = 120
  · subst hc; rfl
  · rw [decide_eq_false hc, beq_eq_false_iff_ne]
    intro e
    exact hc (UInt8.toNat_inj.mp (by show c.toNat = 120; omega))
theorem names_run (L : List ByteArray) (i : Nat) (hi : i < L.length) (d : Nat) : ∀ (j k acc : Nat), j + d = 7 → acc < 4294967296 →
    whispererref06_flags.l1 (d + 1 + k) acc L (nameL.map ba) i ((2 ^ j : Nat) : Int) j = whispererref06_flags.j2 k (((acc + nvF (L[i]'hi) d j) % 4294967296 : Nat) : Int) L (nameL.map ba) i (isX (L[i]'hi)) := by
  induction d with
  | zero =>
    intro j k acc hj ha
    obtain rfl : j = 7 := by omega
    rw [show 0 + 1 + k = k + 1 by omega]
    simp only [whispererref06_flags.l1]
    rw [if_neg (by decide), if_pos (by omega), if_pos (by omega), rdOf_at L i hi]
    have e : (acc + nvF (L[i]'hi) 0 7) % 4294967296 = acc := by simp [nvF]; omega
    rw [e]
    unfold isX
    by_cases hs : (L[i]'hi).size > 1
    · rw [if_pos (by omega), if_pos (by omega), head_bt _ hs, decide_eq_true hs, Bool.true_and]
    · rw [if_neg (by omega), decide_eq_false hs, Bool.false_and]
  | succ d ih =>
    intro j k acc hj ha
    rw [show d + 1 + 1 + k = (d + 1 + k) + 1 by omega]
    simp only [whispererref06_flags.l1]
    have e2 : wrap64 ((j : Int) + 1) = ((j + 1 : Nat) : Int) := by rw [w64 (by omega) (by omega)]; omega
    have hl : ((nameL.map ba).length : Int) = 7 := by decide
    have hp : 2 ^ j ≤ 2 ^ 6 := Nat.pow_le_pow_right (by decide) (by omega)
    have h6 : (2 : Nat) ^ 6 = 64 := by decide
    have hp1 : 2 ^ (j + 1) = 2 ^ j * 2 := Nat.pow_succ 2 j
    have e3 : (((2 ^ j : Nat) : Int) * 2) % 4294967296 = ((2 ^ (j + 1) : Nat) : Int) := by rw [hp1]; omega
    rw [hl, if_pos (by omega), if_pos (by omega), if_pos (by omega), if_pos (by omega), rdOf_at L i hi, names_rd j (by omega), e2, e3]
    have hq := ba_beq (L[i]'hi) (nm j)
    by_cases hx : L[i]'hi = nm j
    · rw [if_pos (by rw [hx])]
      have e4 : ((acc : Int) + ((2 ^ j : Nat) : Int)) % 4294967296 = (((acc + 2 ^ j) % 4294967296 : Nat) : Int) := by omega
      rw [e4, ih (j + 1) k _ (by omega) (Nat.mod_lt _ (by omega))]
      congr 2
      show _ = (acc + ((if L[i]'hi = nm j then 2 ^ j else 0) + nvF (L[i]'hi) d (j + 1))) % 4294967296
      rw [if_pos hx]
      omega
    · rw [decide_eq_false hx, beq_eq_false_iff_ne] at hq
      rw [if_neg hq, ih (j + 1) k acc (by omega) ha]
      congr 2
      show _ = (acc + ((if L[i]'hi = nm j then 2 ^ j else 0) + nvF (L[i]'hi) d (j + 1))) % 4294967296
      rw [if_neg hx, Nat.zero_add]
theorem num_up (s : ByteArray) (b most K : Nat) (hb : 2 ≤ b) (h16 : b ≤ 16) (hm : most ≤ 1000000) (hp : b ^ most ≤ 4611686018427387904) (hK : most + 3 ≤ K) : PNumber.whispererref06_Number.f K s (b : Int) (most : Int) = some (numB b most s.data.toList) := by
  obtain ⟨m, rfl⟩ : ∃ m, K = m + 3 := ⟨K - 3, by omega⟩
  exact num_eq s b most m hb h16 hm hp (by omega)
theorem tail_data (x : ByteArray) : (x.extract 1 x.size).data.toList = x.data.toList.drop 1 := Lib.extract_to_end x 1
theorem piece_run (L : List ByteArray) (i : Nat) (hi : i < L.length) (hi2 : i < 1000000) (k acc : Nat) (ha : acc < 4294967296) :
    whispererref06_flags.l0 (30 + k) acc L (nameL.map ba) i = whispererref06_flags.l0 (20 + k) (((acc + pv (L[i]'hi)) % 4294967296 : Nat) : Int) L (nameL.map ba) ((i + 1 : Nat) : Int) := by
  rw [show 30 + k = (7 + 1 + (21 + k)) + 1 by omega]
  have e2 : wrap64 ((i : Int) + 1) = ((i + 1 : Nat) : Int) := by rw [w64 (by omega) (by omega)]; omega
  rw [whispererref06_flags.l0, if_pos (by omega)]
  have hn := names_run L i hi 7 0 (21 + k) acc (by omega) ha
  rw [show ((2 ^ 0 : Nat) : Int) = 1 from rfl, show ((0 : Nat) : Int) = 0 from rfl] at hn
  rw [hn, show 21 + k = (20 + k) + 1 by omega]
  simp only [whispererref06_flags.j2]
  unfold pv hexP
  cases hX : isX (L[i]'hi)
  · simp only [Bool.false_eq_true, if_false, Nat.add_zero, e2]
  · have hs : (L[i]'hi).size > 1 := by
      unfold isX at hX
      rw [Bool.and_eq_true, decide_eq_true_eq] at hX
      exact hX.1
    have hnum := num_up ((L[i]'hi).extract 1 (L[i]'hi).size) 16 8 (20 + k) (by omega) (by omega) (by omega) (by decide) (by omega)
    rw [tail_data] at hnum
    have hlt := numB_lt ((L[i]'hi).data.toList.drop 1)
    rw [if_pos rfl, if_pos (by omega), if_pos (by omega), rdOf_at L i hi, if_pos (by omega), show (16 : Int) = ((16 : Nat) : Int) from rfl, show (8 : Int) = ((8 : Nat) : Int) from rfl, hnum]
    simp only [Option.bind_some]
    simp only [if_true, e2]
    generalize numB 16 8 ((L[i]'hi).data.toList.drop 1) = t at *
    by_cases ht : t > 0
    · rw [if_pos ht]
      congr 1
      omega
    · rw [if_neg ht]
      congr 1
      omega
theorem flags_run (L : List ByteArray) (hL : L.length ≤ 100000) (d : Nat) : ∀ (i k acc : Nat), i + d = L.length → acc < 4294967296 → whispererref06_flags.l0 (10 * d + 20 + k) acc L (nameL.map ba) i = some ((flagsF acc (L.drop i) : Nat) : Int) := by
  induction d with
  | zero =>
    intro i k acc hi ha
    rw [show 10 * 0 + 20 + k = (19 + k) + 1 by omega]
    simp only [whispererref06_flags.l0]
    rw [if_neg (by omega), List.drop_of_length_le (by omega)]
    rfl
  | succ d ih =>
    intro i k acc hi ha
    have hlt : i < L.length := by omega
    rw [show 10 * (d + 1) + 20 + k = 30 + (10 * d + k) by omega, piece_run L i hlt (by omega) _ acc ha, show 20 + (10 * d + k) = 10 * d + 20 + k by omega, ih (i + 1) k _ (by omega) (Nat.mod_lt _ (by omega))]
    rw [List.drop_eq_getElem_cons hlt]
    rfl
theorem cut_up (s : ByteArray) (c : UInt8) (K : Nat) (hs : s.size ≤ 10000) (hK : s.size + 1 ≤ K) : PCut.whispererref06_Cut.f K s (c.toNat : Int) = some (pieces c s) := by
  obtain ⟨m, rfl⟩ : ∃ m, K = m + 1 + s.size := ⟨K - (s.size + 1), by omega⟩
  exact refcut_eq s c m (by omega)
theorem ref_flags (s : ByteArray) (hs : s.size ≤ 10000) (K : Nat) (hK : 200000 ≤ K) : whispererref06_flags.f K s = some ((flagsF 0 (pieces 43 s) : Nat) : Int) := by
  have hl := pieces_length 43 s
  unfold whispererref06_flags.f
  rw [show (43 : Int) = ((43 : UInt8).toNat : Int) from rfl, cut_up s 43 K hs (by omega), names_f]
  simp only [Option.bind_some]
  obtain ⟨m, rfl⟩ : ∃ m, K = 10 * (pieces 43 s).length + 20 + m := ⟨K - (10 * (pieces 43 s).length + 20), by omega⟩
  exact flags_run (pieces 43 s) (by omega) (pieces 43 s).length 0 m 0 (by omega) (by omega)

/-! of a text the flags -/
theorem flagsF_sum : ∀ (l : List ByteArray) (acc : Nat), acc < 4294967296 → flagsF acc l = (acc + (l.map pv).sum) % 4294967296
  | [], acc, h => by simp [flagsF]; omega
  | x :: r, acc, h => by
    rw [flagsF, flagsF_sum r _ (Nat.mod_lt _ (by omega)), List.map_cons, List.sum_cons]
    omega
theorem pv_nm : ∀ j, j < 7 → pv (nm j) = 2 ^ j := by decide +kernel
theorem nvF_not (x : ByteArray) (h : ∀ j, j < 7 → x ≠ nm j) : ∀ d j, j + d = 7 → nvF x d j = 0
  | 0, j, _ => rfl
  | d + 1, j, hj => by
    unfold nvF
    rw [if_neg (h j (by omega)), nvF_not x h d (j + 1) (by omega)]
theorem pv_x (r : Nat) (h : r ≤ 4294967295) : pv ⟨(120 :: digs 16 r).toArray⟩ = r := by
  unfold pv
  rw [nvF_not _ (fun j hj e => (nm_head j hj).1 (by rw [← e]; simp)) 7 0 (by omega), Nat.zero_add]
  have hne := digs_ne 16 r
  have hd : (⟨(120 :: digs 16 r).toArray⟩ : ByteArray).data.toList = 120 :: digs 16 r := by simp
  have hX : isX ⟨(120 :: digs 16 r).toArray⟩ = true := by
    unfold isX
    rw [hd, Lib.size_eq, hd]
    simp
    cases hh : digs 16 r with
    | nil => exact absurd hh hne
    | cons a t => simp
  unfold hexP
  rw [if_pos hX, hd]
  show (numB 16 8 (digs 16 r)).toNat = r
  rw [numB_digs (by omega) (by omega) (digs_len (by omega) (by omega) (by omega) (show r < 16 ^ 8 from Nat.lt_of_le_of_lt h (by decide)))]
  exact Int.toNat_natCast r
theorem pv_dash : pv ⟨#[45]⟩ = 0 := by decide +kernel
theorem sum_flag (fl : Nat) : ∀ j, j ≤ 7 → ((flagL fl j).map pv).sum = fl % 2 ^ j
  | 0, _ => by simp [flagL]; omega
  | j + 1, hj => by
    have ih := sum_flag fl j (by omega)
    have hm : fl % 2 ^ (j + 1) = fl % 2 ^ j + 2 ^ j * (fl / 2 ^ j % 2) := by rw [Nat.pow_succ, Nat.mod_mul]
    unfold flagL
    split
    · rename_i hb
      rw [List.map_append, List.sum_append, ih, hm, hb, List.map_cons, pv_nm j (by omega)]
      simp
    · rename_i hb
      rw [ih, hm, show fl / 2 ^ j % 2 = 0 by omega]
      omega
theorem flags_part (fl : Nat) (hfl : fl < 4294967296) : flagsF 0 (partL fl) = fl := by
  rw [flagsF_sum _ 0 (by omega), Nat.zero_add]
  have hall : ((allL fl).map pv).sum = fl := by
    unfold allL restL
    have h7 := sum_flag fl 7 (by omega)
    have e7 : (2 : Nat) ^ 7 = 128 := by decide
    rw [List.map_append, List.sum_append, h7]
    split
    · simp; omega
    · rw [List.map_cons, List.sum_cons, pv_x _ (by omega)]
      simp; omega
  unfold partL
  split
  · rename_i h0
    have he : allL fl = [] := List.eq_nil_of_length_eq_zero h0
    rw [he] at hall
    have : fl = 0 := by simpa using hall.symm
    subst this
    rw [List.map_cons, List.sum_cons, pv_dash]
    rfl
  · rw [hall]; omega
theorem num_itoa (n : Nat) (h : n < 256) : numB 10 3 (itoaV n).data.toList = (n : Int) := by
  have e : (itoaV n).data.toList = digs 10 n := by rw [itoaV, itoa_dec, digs_dec]
  rw [e]
  exact numB_digs (by omega) (by omega) (digs_len (by omega) (by omega) (by omega) (by omega))
theorem joinV_size (fl : Nat) (h : fl < 4294967296) : (joinV (partL fl)).size ≤ 1000 := by
  have := small_join (part_small fl h) 43
  rw [Lib.size_eq]
  exact this
theorem numB_hi (l : List UInt8) : numB 10 3 l < 1000 := by
  unfold numB
  split
  · omega
  · rename_i h
    split
    · rename_i hd
      have h1 := valB_lt 10 l (by omega) ((isDigB_iff 10 l).1 hd)
      have h2 : l.length ≤ 3 := by
        by_cases e : 3 < l.length
        · exact absurd (.inr (.inl e)) h
        · omega
      have h3 : 10 ^ l.length ≤ 10 ^ 3 := Nat.pow_le_pow_right (by decide) h2
      have : (10 : Nat) ^ 3 = 1000 := by decide
      omega
    · omega
theorem three {α : Type} (a b c : α) : (([a, b, c] : List α).length : Int) = 3 := rfl
theorem ref_read (s : ByteArray) (hs : s.size ≤ 2000) (K : Nat) (hK : 300000 ≤ K) : whispererref06_Read.f K s = some (readV s) := by
  obtain ⟨k, rfl⟩ : ∃ m, K = m + 1 := ⟨K - 1, by omega⟩
  have jt : ∀ (L : List ByteArray) (x y : Int), whispererref06_Read.j0 (k + 1) s L x y true = some (0, 0, 0, 8) := fun L x y => by simp [whispererref06_Read.j0]
  have hsz := pieces_size 32 s
  unfold whispererref06_Read.f
  rw [show (32 : Int) = ((32 : UInt8).toNat : Int) from rfl, cut_up s 32 (k + 1) (by omega) (by omega)]
  simp only [Option.bind_some]
  rcases readV_cases s with ⟨fl, mn, tm, h1, h2, h3, he, hv⟩ | ⟨hv, hno⟩
  · rw [hv]
    have hp := pieces_text fl mn tm
    rw [← he] at hp
    rw [hp]
    have n1 := num_up (itoaV mn) 10 3 (k + 1) (by omega) (by omega) (by omega) (by decide) (by omega)
    have n2 := num_up (itoaV tm) 10 3 (k + 1) (by omega) (by omega) (by omega) (by decide) (by omega)
    rw [num_itoa mn h2] at n1
    rw [num_itoa tm h3] at n2
    have hf := ref_flags (joinV (partL fl)) (by have := joinV_size fl h1; omega) k (by omega)
    rw [pieces_part, flags_part fl h1] at hf
    rw [three, if_pos rfl, if_pos (by decide)]
    rw [show rdOf ByteArray.empty [joinV (partL fl), itoaV mn, itoaV tm] 1 = itoaV mn from rfl, show rdOf ByteArray.empty [joinV (partL fl), itoaV mn, itoaV tm] 2 = itoaV tm from rfl]
    rw [show (10 : Int) = ((10 : Nat) : Int) from rfl, show (3 : Int) = ((3 : Nat) : Int) from rfl, n1]
    simp only [Option.bind_some]
    rw [if_pos (by decide), n2]
    simp only [Option.bind_some]
    rw [if_neg (by omega), if_neg (by omega), if_neg (by omega), decide_eq_false (by omega)]
    simp only [whispererref06_Read.j0]
    rw [if_neg (by decide), if_pos (by rw [three]; decide), show rdOf ByteArray.empty [joinV (partL fl), itoaV mn, itoaV tm] 0 = joinV (partL fl) from rfl, hf]
    simp only [Option.bind_some]
    rw [show (mn : Int) % 256 = (mn : Int) by omega, show (tm : Int) % 256 = (tm : Int) by omega, ref_text fl mn tm h1 h2 h3 k (by omega)]
    simp only [Option.bind_some]
    rw [if_pos (by rw [he])]
  · rw [hv]
    by_cases h3 : (pieces 32 s).length = 3
    · obtain ⟨p0, p1, p2, hp⟩ : ∃ p0 p1 p2, pieces 32 s = [p0, p1, p2] := by
        match hh : pieces 32 s, h3 with
        | [p0, p1, p2], _ => exact ⟨p0, p1, p2, rfl⟩
      rw [hp] at hsz ⊢
      have hz0 := hsz p0 (by simp)
      have n1 := num_up p1 10 3 (k + 1) (by omega) (by omega) (by omega) (by decide) (by omega)
      have n2 := num_up p2 10 3 (k + 1) (by omega) (by omega) (by omega) (by decide) (by omega)
      rw [three, if_pos rfl, if_pos (by decide)]
      rw [show rdOf ByteArray.empty [p0, p1, p2] 1 = p1 from rfl, show rdOf ByteArray.empty [p0, p1, p2] 2 = p2 from rfl]
      rw [show (10 : Int) = ((10 : Nat) : Int) from rfl, show (3 : Int) = ((3 : Nat) : Int) from rfl, n1]
      simp only [Option.bind_some]
      rw [if_pos (by decide), n2]
      simp only [Option.bind_some]
      generalize numB 10 3 p1.data.toList = a at *
      generalize numB 10 3 p2.data.toList = b at *
      by_cases c1 : a < 0
      · rw [if_pos c1]; exact jt _ _ _
      · rw [if_neg c1]
        by_cases c2 : a > 255
        · rw [if_pos c2]; exact jt _ _ _
        · rw [if_neg c2]
          by_cases c3 : b < 0
          · rw [if_pos c3]; exact jt _ _ _
          · rw [if_neg c3]
            by_cases c4 : b > 255
            · rw [decide_eq_true c4]; exact jt _ _ _
            · rw [decide_eq_false c4]
              obtain ⟨a, rfl⟩ := Int.eq_ofNat_of_zero_le (show 0 ≤ a by omega)
              obtain ⟨b, rfl⟩ := Int.eq_ofNat_of_zero_le (show 0 ≤ b by omega)
              have hf := ref_flags p0 (by omega) k (by omega)
              have hlt := flagsF_lt (pieces 43 p0) 0 (by omega)
              simp only [whispererref06_Read.j0]
              rw [if_neg (by decide), if_pos (by simp), show rdOf ByteArray.empty [p0, p1, p2] 0 = p0 from rfl, hf]
              simp only [Option.bind_some]
              rw [show (a : Int) % 256 = (a : Int) by omega, show (b : Int) % 256 = (b : Int) by omega, ref_text _ a b hlt (by omega) (by omega) k (by omega)]
              simp only [Option.bind_some]
              have hq := ba_beq (textV (flagsF 0 (pieces 43 p0)) a b) s
              rw [decide_eq_false (fun e => hno _ a b hlt (by omega) (by omega) e.symm), beq_eq_false_iff_ne] at hq
              rw [if_neg hq]
    · rw [if_neg (by omega)]
end Go.Proofs.YtgdbkgjnonodjaaDoor.Hand
