/- The text of attributes is read as these; nothing else is read. -/
import Derived.Test.YtbiogabekhegaaaGreatDoorHandRead7
namespace Go.Proofs.YtbiogabekhegaaaGreatDoor.Hand
open Go.RowKit
set_option linter.unusedVariables false
set_option linter.unusedSimpArgs false

/-! joined rows -/
theorem libjoin_eq (c : UInt8) : ∀ L : List (List UInt8), Lib.join L [c] = joinB c L
  | [] => rfl
  | [x] => by rw [Lib.join_one]; rfl
  | x :: y :: r => by
    rw [join_cons c x (y :: r) (by simp), ← libjoin_eq c (y :: r)]
    rw [Lib.join_cons, Lib.join_cons]
    simp [Lib.joinTail]
theorem split_join (c : UInt8) : ∀ L : List (List UInt8), L ≠ [] → (∀ p ∈ L, c ∉ p) → splitB c (joinB c L) = L
  | [], h, _ => absurd rfl h
  | [x], _, h => split_none c x (h x (by simp))
  | x :: y :: r, _, h => by
    rw [join_cons c x (y :: r) (by simp), split_app c x _ (h x (by simp)), split_join c (y :: r) (by simp) (fun p hp => h p (by simp [hp]))]
theorem join_mem (c d : UInt8) (hd : d ≠ c) : ∀ L : List (List UInt8), (∀ p ∈ L, d ∉ p) → d ∉ joinB c L
  | [], _ => by intro h; cases h
  | [x], h => h x (by simp)
  | x :: y :: r, h => by
    rw [join_cons c x (y :: r) (by simp)]
    intro hm
    rcases List.mem_append.mp hm with hm | hm
    · exact h x (by simp) hm
    · rcases List.mem_cons.mp hm with hm | hm
      · exact hd hm
      · exact join_mem c d hd (y :: r) (fun p hp => h p (by simp [hp])) hm
theorem pieces_join (c : UInt8) (xs : List ByteArray) (h0 : xs ≠ []) (h : ∀ p ∈ xs, c ∉ p.data.toList) : pieces c ⟨(Lib.join (xs.map (·.data.toList)) [c]).toArray⟩ = xs := by
  unfold pieces
  rw [libjoin_eq, show (⟨(joinB c (xs.map (·.data.toList))).toArray⟩ : ByteArray).data.toList = joinB c (xs.map (·.data.toList)) by simp]
  rw [split_join c _ (by simpa using h0) (by
    intro p hp
    obtain ⟨x, hx, rfl⟩ := List.mem_map.mp hp
    exact h x hx), List.map_map]
  refine (List.map_congr_left (g := id) fun x _ => ?_).trans (List.map_id _)
  exact ba_data x

/-! digits -/
theorem dec_range (n : Nat) : ∀ c ∈ Lib.decDigits n, 48 ≤ c.toNat ∧ c.toNat ≤ 57 := dec_digit n
theorem itoa_dec (n : Nat) : Lib.itoa (n : Int) = Lib.decDigits n := by rw [itoa_nat (by omega), Int.toNat_natCast]
theorem hex_byte {c : UInt8} (h : 0 ≤ udg c ∧ udg c < 16) : (48 ≤ c.toNat ∧ c.toNat ≤ 57) ∨ (97 ≤ c.toNat ∧ c.toNat ≤ 102) := by
  unfold udg at h
  split at h
  · split at h <;> omega
  · omega
theorem low_id : ∀ n : Nat, n < 256 → 97 ≤ n → n ≤ 102 → bits .or .u8 (n : Int) 32 = (n : Int) := by decide +kernel
theorem hexd_udg {c : UInt8} (h : 0 ≤ udg c ∧ udg c < 16) : hexd c = (udg c).toNat := by
  rcases hex_byte h with h1 | h1
  · unfold hexd
    rw [if_pos h1]
    unfold udg
    rw [if_neg (by omega)]
    omega
  · have hl : low c = c.toNat := by
      have := low_eq c
      rw [low_id c.toNat c.toNat_lt h1.1 h1.2] at this
      omega
    unfold hexd
    rw [if_neg (by omega), hl, if_pos h1]
    unfold udg
    rw [if_pos (by omega), if_pos (by omega)]
    omega
theorem p16_ok : ∀ (l : List UInt8) (acc : Nat), IsDig 16 l → (l.foldl (fun a c => a * 16 + (udg c).toNat) acc) ≤ 4294967295 → p16 acc l = (l.foldl (fun a c => a * 16 + (udg c).toNat) acc, 0)
  | [], acc, _, _ => rfl
  | c :: r, acc, hd, h => by
    have hc := hd c (by simp)
    have mono : ∀ (l : List UInt8) (a : Nat), a ≤ l.foldl (fun a c => a * 16 + (udg c).toNat) a := by
      intro l
      induction l with
      | nil => intro a; exact Nat.le_refl a
      | cons x t ih => intro a; exact Nat.le_trans (show a ≤ a * 16 + (udg x).toNat by omega) (ih _)
    have hm := mono r (acc * 16 + (udg c).toNat)
    simp only [List.foldl_cons] at h ⊢
    unfold p16
    rw [hexd_udg hc, if_pos (by omega), if_neg (by omega)]
    exact p16_ok r _ (fun x hx => hd x (by simp [hx])) h
theorem r16_digs (r : Nat) (h : r ≤ 4294967295) : r16 ⟨(digs 16 r).toArray⟩ = (r, 0) := by
  unfold r16
  have hne := digs_ne 16 r
  rw [if_neg (by
    show ¬ (digs 16 r).toArray.size = 0
    rw [List.size_toArray]
    intro hl
    exact hne (List.eq_nil_of_length_eq_zero hl))]
  show p16 0 (digs 16 r).toArray.toList = _
  have hv := valB_digs 16 r (by omega) (by omega)
  unfold valB at hv
  rw [List.toList_toArray, p16_ok _ _ (digs_dig 16 r (by omega) (by omega)) (by rw [hv]; exact h), hv]
theorem parseM_ok (M : Nat) (hM : M < 1844674407370955162) : ∀ (l : List UInt8) (acc : Nat), IsDig 10 l → (l.foldl (fun a c => a * 10 + (udg c).toNat) acc) ≤ M → Lib.parseUintM M acc l = .ok (l.foldl (fun a c => a * 10 + (udg c).toNat) acc)
  | [], acc, _, _ => rfl
  | c :: r, acc, hd, h => by
    have hc := hd c (by simp)
    have hc' := udg_dec.1 hc
    have hu : (udg c).toNat = c.toNat - 48 := by
      unfold udg
      rw [if_neg (by omega)]
      omega
    have mono : ∀ (l : List UInt8) (a : Nat), a ≤ l.foldl (fun a c => a * 10 + (udg c).toNat) a := by
      intro l
      induction l with
      | nil => intro a; exact Nat.le_refl a
      | cons x t ih => intro a; exact Nat.le_trans (show a ≤ a * 10 + (udg x).toNat by omega) (ih _)
    have hm := mono r (acc * 10 + (udg c).toNat)
    simp only [List.foldl_cons] at h ⊢
    unfold Lib.parseUintM
    rw [if_pos hc', if_neg (by omega), if_neg (by omega), ← hu]
    exact parseM_ok M hM r _ (fun x hx => hd x (by simp [hx])) h
theorem parse8_itoa (n : Nat) (h : n < 256) : Lib.parseUintB 8 (itoaV n).data.toList = .ok n := by
  have e : (itoaV n).data.toList = digs 10 n := by rw [itoaV, itoa_dec, digs_dec]
  rw [e]
  have hv := valB_digs 10 n (by omega) (by omega)
  unfold valB at hv
  unfold Lib.parseUintB
  rw [if_neg (digs_ne 10 n), parseM_ok (2 ^ 8 - 1) (by decide) _ 0 (digs_dig 10 n (by omega) (by omega)) (by rw [hv]; omega), hv]
theorem d8_itoa (n : Nat) (h : n < 256) : d8 (itoaV n) = n ∧ d8ok (itoaV n) = true := by
  unfold d8 d8ok
  rw [parse8_itoa n h]
  exact ⟨rfl, rfl⟩

/-! flags -/
theorem nm_bytes : ∀ j, j < 7 → ∀ c ∈ (nm j).data.toList, 97 ≤ c.toNat ∧ c.toNat ≤ 122 := by decide
theorem nm_head : ∀ j, j < 7 → (nm j).data.toList.head? ≠ some 120 ∧ (nm j).data.toList.head? ≠ some 45 := by decide
theorem names_mem (x : ByteArray) : x ∈ namesFL → ∃ j, j < 7 ∧ x = nm j := by
  intro h
  simp only [namesFL, nameL, List.map_cons, List.map_nil, List.mem_cons, List.not_mem_nil, or_false] at h
  rcases h with h | h | h | h | h | h | h
  · exact ⟨0, by decide, h⟩
  · exact ⟨1, by decide, h⟩
  · exact ⟨2, by decide, h⟩
  · exact ⟨3, by decide, h⟩
  · exact ⟨4, by decide, h⟩
  · exact ⟨5, by decide, h⟩
  · exact ⟨6, by decide, h⟩
theorem flag_nm (j : Nat) (hj : j < 7) : flagV (nm j) = (2 ^ j, true) := by
  have hi : Lib.idxOfS namesFL (nm j) = (j : Int) := by
    refine (Lib.idxOfS_hit namesFL 7 j (nm j) hj (by decide) ?_ ?_)
    · obtain rfl | rfl | rfl | rfl | rfl | rfl | rfl : j = 0 ∨ j = 1 ∨ j = 2 ∨ j = 3 ∨ j = 4 ∨ j = 5 ∨ j = 6 := by omega
      all_goals rfl
    · intro i hij
      have key : ∀ j, j < 7 → ∀ i, i < j → namesFL.getD i ByteArray.empty ≠ nm j := by decide
      exact key j hj i hij
  unfold flagV
  rw [hi, if_pos (by omega), Int.toNat_natCast]
theorem not_name {x : ByteArray} (c : UInt8) (hx : x.data.toList.head? = some c) (hc : c = 120 ∨ c = 45) : Lib.idxOfS namesFL x < 0 := by
  by_cases h : 0 ≤ Lib.idxOfS namesFL x
  · obtain ⟨j, hj, rfl⟩ := names_mem x ((Lib.idxOfS_nonneg_iff namesFL x).mp h)
    have := nm_head j hj
    rcases hc with rfl | rfl
    · exact absurd hx this.1
    · exact absurd hx this.2
  · omega
theorem flag_x (r : Nat) (h : r ≤ 4294967295) : flagV ⟨(120 :: digs 16 r).toArray⟩ = (r, true) := by
  have hn := not_name (x := ⟨(120 :: digs 16 r).toArray⟩) 120 (by simp) (.inl rfl)
  have hh : hexOf ⟨(120 :: digs 16 r).toArray⟩ = ⟨(digs 16 r).toArray⟩ := by
    unfold hexOf Lib.trimPrefix
    simp [Lib.hasPrefix]
  unfold flagV
  rw [if_neg (by omega), hh, r16_digs r h]
  simp [Lib.hasPrefix]
theorem flag_dash : (flagV ⟨#[45]⟩).1 = 0 := by
  have hn := not_name (x := ⟨#[45]⟩) 45 rfl (.inr rfl)
  unfold flagV
  rw [if_neg (by omega)]
  have : hexOf ⟨#[45]⟩ = ⟨#[45]⟩ := by decide +kernel
  rw [this]
  decide +kernel
theorem okP_nm (j : Nat) (hj : j < 7) : okP (nm j) = true := by unfold okP; rw [flag_nm j hj]; rfl
theorem okP_x (r : Nat) (h : r ≤ 4294967295) : okP ⟨(120 :: digs 16 r).toArray⟩ = true := by unfold okP; rw [flag_x r h]; rfl
theorem okP_dash : okP ⟨#[45]⟩ = true := by unfold okP; simp
theorem flagL_mem (fl : Nat) : ∀ j, j ≤ 7 → ∀ x ∈ flagL fl j, ∃ i, i < 7 ∧ x = nm i
  | 0, _, x, h => by cases h
  | j + 1, hj, x, h => by
    unfold flagL at h
    split at h
    · rcases List.mem_append.mp h with h | h
      · exact flagL_mem fl j (by omega) x h
      · exact ⟨j, by omega, List.mem_singleton.mp h⟩
    · exact flagL_mem fl j (by omega) x h
theorem part_cases (fl : Nat) (x : ByteArray) (h : x ∈ partL fl) : (∃ i, i < 7 ∧ x = nm i) ∨ (fl - fl % 128 ≠ 0 ∧ x = ⟨(120 :: digs 16 (fl - fl % 128)).toArray⟩) ∨ x = ⟨#[45]⟩ := by
  unfold partL at h
  split at h
  · exact .inr (.inr (List.mem_singleton.mp h))
  · unfold allL at h
    rcases List.mem_append.mp h with h | h
    · exact .inl (flagL_mem fl 7 (by omega) x h)
    · unfold restL at h
      split at h
      · cases h
      · rename_i h0
        exact .inr (.inl ⟨h0, List.mem_singleton.mp h⟩)
theorem part_ne (fl : Nat) : partL fl ≠ [] := by
  unfold partL
  split
  · simp
  · rename_i h
    intro e
    exact h (by rw [e]; rfl)
theorem part_byte (fl : Nat) (x : ByteArray) (h : x ∈ partL fl) : ∀ c ∈ x.data.toList, 45 ≤ c.toNat := by
  intro c hc
  rcases part_cases fl x h with ⟨i, hi, rfl⟩ | ⟨_, rfl⟩ | rfl
  · have := nm_bytes i hi c hc; omega
  · have hc' : c ∈ 120 :: digs 16 (fl - fl % 128) := by simpa using hc
    rcases List.mem_cons.mp hc' with rfl | h2
    · decide
    · rcases hex_byte (digs_dig 16 _ (by omega) (by omega) c h2) with h3 | h3 <;> omega
  · have : c = 45 := by simpa using hc
    subst this
    decide
theorem part_ok (fl : Nat) (hfl : fl < 4294967296) : (partL fl).all okP = true := by
  rw [List.all_eq_true]
  intro x hx
  rcases part_cases fl x hx with ⟨i, hi, rfl⟩ | ⟨_, rfl⟩ | rfl
  · exact okP_nm i hi
  · exact okP_x _ (by omega)
  · exact okP_dash
theorem or_add (a b i : Nat) (h : b < 2 ^ i) : b ||| 2 ^ i * a = b + 2 ^ i * a := by
  rw [Nat.or_comm, ← Nat.two_pow_add_eq_or_of_lt h]; omega
theorem orL_flag (fl : Nat) : ∀ j, j ≤ 7 → orL (flagL fl j) = fl % 2 ^ j
  | 0, _ => by simp [flagL, orL]; omega
  | j + 1, hj => by
    have ih := orL_flag fl j (by omega)
    have hlt : fl % 2 ^ j < 2 ^ j := Nat.mod_lt _ (Nat.two_pow_pos j)
    have hm : fl % 2 ^ (j + 1) = fl % 2 ^ j + 2 ^ j * (fl / 2 ^ j % 2) := by rw [Nat.pow_succ, Nat.mod_mul]
    unfold flagL
    split
    · rename_i hb
      rw [orL_snoc, ih, flag_nm j (by omega), hm, hb]
      exact or_add 1 _ j hlt |> fun e => by simpa using e
    · rename_i hb
      rw [ih, hm, show fl / 2 ^ j % 2 = 0 by omega]
      omega
theorem orL_part (fl : Nat) (hfl : fl < 4294967296) : orL (partL fl) = fl := by
  have hall : orL (allL fl) = fl := by
    unfold allL restL
    have h7 := orL_flag fl 7 (by omega)
    split
    · rename_i h0
      rw [List.append_nil, h7]
      have : (2 : Nat) ^ 7 = 128 := by decide
      rw [this]; omega
    · rename_i h0
      rw [orL_snoc, h7, flag_x _ (by omega)]
      have h2 : fl - fl % 128 = 2 ^ 7 * (fl / 128) := by omega
      show fl % 2 ^ 7 ||| (fl - fl % 128) = fl
      rw [h2, or_add _ _ 7 (Nat.mod_lt _ (by decide))]
      have : (2 : Nat) ^ 7 = 128 := by decide
      rw [this]; omega
  unfold partL
  split
  · rename_i h0
    have he : allL fl = [] := List.eq_nil_of_length_eq_zero h0
    rw [he] at hall
    show 0 ||| (flagV ⟨#[45]⟩).1 = fl
    rw [flag_dash]
    exact hall
  · exact hall

/-! a text, read -/
theorem itoaV_byte (n : Nat) : ∀ c ∈ (itoaV n).data.toList, 48 ≤ c.toNat := by
  intro c hc
  have e : (itoaV n).data.toList = Lib.decDigits n := by rw [itoaV, itoa_dec]
  rw [e] at hc
  exact (dec_digit n c hc).1
theorem pieces_text (fl mn tm : Nat) : pieces 32 (textV fl mn tm) = [joinV (partL fl), itoaV mn, itoaV tm] := by
  unfold textV wordsV
  refine pieces_join 32 [joinV (partL fl), itoaV mn, itoaV tm] (by simp) ?_
  intro p hp hm
  simp only [List.mem_cons, List.not_mem_nil, or_false] at hp
  rcases hp with rfl | rfl | rfl
  · unfold joinV at hm
    rw [libjoin_eq] at hm
    have hm' : (32 : UInt8) ∈ joinB 43 ((partL fl).map (·.data.toList)) := by simpa using hm
    refine join_mem 43 32 (by decide) _ ?_ hm'
    intro p hp hc
    obtain ⟨x, hx, rfl⟩ := List.mem_map.mp hp
    exact absurd (part_byte fl x hx 32 hc) (by decide)
  · exact absurd (itoaV_byte mn 32 hm) (by decide)
  · exact absurd (itoaV_byte tm 32 hm) (by decide)
theorem pieces_part (fl : Nat) : pieces 43 (joinV (partL fl)) = partL fl := by
  unfold joinV
  refine pieces_join 43 (partL fl) (part_ne fl) ?_
  intro p hp hc
  exact absurd (part_byte fl p hp 43 hc) (by decide)
theorem readV_text (fl mn tm : Nat) (hfl : fl < 4294967296) (hmn : mn < 256) (htm : tm < 256) : readV (textV fl mn tm) = ((fl : Int), (mn : Int), (tm : Int), 0) := by
  unfold readV
  rw [pieces_text]
  simp only
  have hg : goodB (textV fl mn tm) (joinV (partL fl)) (itoaV mn) (itoaV tm) = true := by
    unfold goodB
    rw [pieces_part, part_ok fl hfl, (d8_itoa mn hmn).2, (d8_itoa tm htm).2, orL_part fl hfl, (d8_itoa mn hmn).1, (d8_itoa tm htm).1]
    simp
  rw [if_pos hg, pieces_part, orL_part fl hfl, (d8_itoa mn hmn).1, (d8_itoa tm htm).1]
theorem readV_cases (s : ByteArray) : (∃ fl mn tm : Nat, fl < 4294967296 ∧ mn < 256 ∧ tm < 256 ∧ s = textV fl mn tm ∧ readV s = ((fl : Int), (mn : Int), (tm : Int), 0)) ∨ (readV s = (0, 0, 0, 8) ∧ ∀ fl mn tm : Nat, fl < 4294967296 → mn < 256 → tm < 256 → s ≠ textV fl mn tm) := by
  by_cases h : ∃ fl mn tm : Nat, fl < 4294967296 ∧ mn < 256 ∧ tm < 256 ∧ s = textV fl mn tm
  · obtain ⟨fl, mn, tm, h1, h2, h3, rfl⟩ := h
    exact .inl ⟨fl, mn, tm, h1, h2, h3, rfl, readV_text fl mn tm h1 h2 h3⟩
  · refine .inr ⟨?_, fun fl mn tm h1 h2 h3 e => h ⟨fl, mn, tm, h1, h2, h3, e⟩⟩
    unfold readV
    split
    · rename_i p0 p1 p2 hp
      split
      · rename_i hg
        unfold goodB at hg
        rw [Bool.and_eq_true, decide_eq_true_eq] at hg
        exact absurd ⟨_, _, _, orL_lt _, d8_lt _, d8_lt _, hg.2.symm⟩ h
      · rfl
    · rfl
theorem textV_inj {fl mn tm fl' mn' tm' : Nat} (h1 : fl < 4294967296) (h2 : mn < 256) (h3 : tm < 256) (h1' : fl' < 4294967296) (h2' : mn' < 256) (h3' : tm' < 256) (h : textV fl mn tm = textV fl' mn' tm') : fl = fl' ∧ mn = mn' ∧ tm = tm' := by
  have a := readV_text fl mn tm h1 h2 h3
  rw [h, readV_text fl' mn' tm' h1' h2' h3'] at a
  injection a with a1 a; injection a with a2 a; injection a with a3 a
  omega
theorem part_small (fl : Nat) (h : fl < 4294967296) : Small (partL fl) := by
  unfold partL
  split
  · exact ⟨by simp, by intro x hx; rw [List.mem_singleton.mp hx]; decide⟩
  · exact all_small fl h
theorem textV_size (fl mn tm : Nat) (h1 : fl < 4294967296) (h2 : mn < 256) (h3 : tm < 256) : (textV fl mn tm).size ≤ 2000 := by
  have hq : (joinV (partL fl)).data.toList.length ≤ 1000 := small_join (part_small fl h1) 43
  have e := itoaV_len mn h2
  have e' := itoaV_len tm h3
  rw [Lib.size_eq]
  unfold textV wordsV
  rw [show ∀ l : List UInt8, (⟨l.toArray⟩ : ByteArray).data.toList = l from fun l => by simp, Lib.join_length]
  simp [Lib.lens] at hq e e' ⊢
  omega
/-! the document's examples -/
theorem digs_small (u : Nat) (h : u < 10) : digs 10 u = [dgt u] := by rw [digs, dif_pos (.inl h)]
theorem text_67 : textI 67 4 0 = ⟨#[101, 99, 104, 111, 43, 99, 97, 110, 111, 110, 43, 112, 111, 115, 116, 32, 52, 32, 48]⟩ := by
  show wordsV (joinV (partL 67)) (itoaV 4) (itoaV 0) = _
  have e4 : itoaV 4 = ⟨#[52]⟩ := by unfold itoaV; rw [itoa_dec, ← digs_dec, digs_small 4 (by omega)]; rfl
  have e0 : itoaV 0 = ⟨#[48]⟩ := by unfold itoaV; rw [itoa_dec, ← digs_dec, digs_small 0 (by omega)]; rfl
  rw [e4, e0]
  decide +kernel
theorem text_128 : textV 128 0 0 = ⟨#[120, 56, 48, 32, 48, 32, 48]⟩ := by
  unfold textV
  have e0 : itoaV 0 = ⟨#[48]⟩ := by unfold itoaV; rw [itoa_dec, ← digs_dec, digs_small 0 (by omega)]; rfl
  have ed : digs 16 128 = [56, 48] := by
    rw [digs, dif_neg (by omega), show 128 / 16 = 8 from rfl, digs, dif_pos (.inl (by omega))]
    decide
  have ep : partL 128 = [⟨#[120, 56, 48]⟩] := by
    have ea : allL 128 = [⟨#[120, 56, 48]⟩] := by
      unfold allL
      rw [show flagL 128 7 = [] by decide, show 128 - 128 % 128 = 128 from rfl, restL, if_neg (by omega), ed]
      rfl
    unfold partL
    rw [ea]
    rfl
  rw [e0, ep]
  decide +kernel
theorem text_1 : textV 1 0 0 = ⟨#[101, 99, 104, 111, 32, 48, 32, 48]⟩ := by
  unfold textV
  have e0 : itoaV 0 = ⟨#[48]⟩ := by unfold itoaV; rw [itoa_dec, ← digs_dec, digs_small 0 (by omega)]; rfl
  rw [e0]
  decide +kernel
theorem read_x80 : attrs_Read.f ⟨#[120, 56, 48, 32, 48, 32, 48]⟩ = some (128, 0, 0, 0) := by
  unfold attrs_Read.f
  rw [if_pos (by decide), ← text_128, readV_text 128 0 0 (by omega) (by omega) (by omega)]
  rfl
theorem read_ee : attrs_Read.f ⟨#[101, 99, 104, 111, 43, 101, 99, 104, 111, 32, 48, 32, 48]⟩ = some (0, 0, 0, 8) := by
  unfold attrs_Read.f
  rw [if_pos (by decide)]
  rcases readV_cases ⟨#[101, 99, 104, 111, 43, 101, 99, 104, 111, 32, 48, 32, 48]⟩ with ⟨fl, mn, tm, h1, h2, h3, he, hr⟩ | ⟨h, _⟩
  · exfalso
    have hp := pieces_text fl mn tm
    rw [← he, show pieces 32 ⟨#[101, 99, 104, 111, 43, 101, 99, 104, 111, 32, 48, 32, 48]⟩ = [⟨#[101, 99, 104, 111, 43, 101, 99, 104, 111]⟩, ⟨#[48]⟩, ⟨#[48]⟩] by decide +kernel] at hp
    injection hp with hp0 hp; injection hp with hp1 hp; injection hp with hp2 hp
    have hq := pieces_part fl
    rw [← hp0, show pieces 43 ⟨#[101, 99, 104, 111, 43, 101, 99, 104, 111]⟩ = [nm 0, nm 0] by decide +kernel] at hq
    have ho := orL_part fl h1
    rw [← hq] at ho
    have ho' : (0 ||| (flagV (nm 0)).1) ||| (flagV (nm 0)).1 = fl := ho
    rw [flag_nm 0 (by omega)] at ho'
    have hfl : fl = 1 := ho'.symm
    subst hfl
    rw [show partL 1 = [nm 0] by decide] at hq
    exact absurd (congrArg List.length hq) (by decide)
  · exact congrArg some h
theorem text_some (a b c : Int) (h : inA a b c = true) : attrs_Text.f a b c = some (textI a b c) := by unfold attrs_Text.f; rw [if_pos h]
theorem alive_text : attrs_Text.f 67 4 0 = some ⟨#[101, 99, 104, 111, 43, 99, 97, 110, 111, 110, 43, 112, 111, 115, 116, 32, 52, 32, 48]⟩ := by rw [text_some _ _ _ (by decide), text_67]

/-! bits -/
theorem andnot63 (x : Nat) (h : x < 4294967296) : bits .andNot .u32 (x : Int) 63 = ((x - x % 64 : Nat) : Int) := by
  have key : ∀ y : BitVec 32, y &&& ~~~(63#32) = (y >>> 6) <<< 6 := by
    intro y
    have hm : ∀ i : Nat, i < 32 → (~~~(63#32)).getLsbD i = decide (6 ≤ i) := by decide
    apply BitVec.eq_of_getLsbD_eq
    intro i hi
    rw [BitVec.getLsbD_and, hm i hi, BitVec.getLsbD_shiftLeft, BitVec.getLsbD_ushiftRight]
    by_cases h7 : 6 ≤ i
    · simp [h7, hi, show 6 + (i - 6) = i by omega, show ¬ i < 6 by omega]
    · simp [h7, show i < 6 by omega]
  show IntKind.u32.wrap ((BitVec.ofInt 32 (x : Int) &&& ~~~(BitVec.ofInt 32 63)).toNat : Int) = _
  rw [show BitVec.ofInt 32 63 = 63#32 from rfl, key, BitVec.toNat_shiftLeft, BitVec.toNat_ushiftRight, BitVec.toNat_ofInt, IntKind.wrap_u32', Nat.shiftLeft_eq, Nat.shiftRight_eq_div_pow]
  omega
theorem mask_rest (x : Nat) (h : x < 4294967296) : bits .and .u32 (x : Int) 4294967232 = ((x - x % 64 : Nat) : Int) := by
  rw [← andnot63 x h]
  show IntKind.u32.wrap ((BitVec.ofInt 32 (x : Int) &&& BitVec.ofInt 32 4294967232).toNat : Int) = IntKind.u32.wrap ((BitVec.ofInt 32 (x : Int) &&& ~~~(BitVec.ofInt 32 63)).toNat : Int)
  rw [show BitVec.ofInt 32 4294967232 = ~~~(BitVec.ofInt 32 63) by decide]
theorem and_low (q f : Nat) (h : f < 64) : (64 * q) &&& f = 0 := by
  apply Nat.eq_of_testBit_eq
  intro i
  rw [Nat.testBit_and, show 64 * q = 2 ^ 6 * q from rfl, Nat.testBit_two_pow_mul, Nat.zero_testBit]
  by_cases hi : 6 ≤ i
  · rw [Nat.testBit_lt_two_pow (x := f) (Nat.lt_of_lt_of_le (show f < 2 ^ 6 from h) (Nat.pow_le_pow_right (show 0 < 2 by decide) hi)), Bool.and_false]
  · simp [hi]
theorem wf_u32 {n : Int} (h : (Lit.int .u32 n).wf = true) : 0 ≤ n ∧ n ≤ 4294967295 := by
  have h1 : (decide (IntKind.u32.min ≤ n) && decide (n ≤ IntKind.u32.max)) = true := h
  have e1 : IntKind.u32.min = 0 := by decide
  have e2 : IntKind.u32.max = 4294967295 := by decide
  rw [e1, e2] at h1
  simpa using h1
theorem wf_u8 {n : Int} (h : (Lit.int .u8 n).wf = true) : 0 ≤ n ∧ n ≤ 255 := by
  have h1 : (decide (IntKind.u8.min ≤ n) && decide (n ≤ IntKind.u8.max)) = true := h
  have e1 : IntKind.u8.min = 0 := by decide
  have e2 : IntKind.u8.max = 255 := by decide
  rw [e1, e2] at h1
  simpa using h1
theorem inA_nat {a b c : Nat} (h1 : a < 4294967296) (h2 : b < 256) (h3 : c < 256) : inA a b c = true := (inA_iff _ _ _).2 ⟨by omega, by omega, by omega, by omega, by omega, by omega⟩
theorem read_text_f (a b c : Nat) (h1 : a < 4294967296) (h2 : b < 256) (h3 : c < 256) : attrs_Read.f (textV a b c) = some ((a : Int), (b : Int), (c : Int), 0) := by
  unfold attrs_Read.f
  rw [if_pos (by have := textV_size a b c h1 h2 h3; omega), readV_text a b c h1 h2 h3]
theorem text_nat (a b c : Nat) (h1 : a < 4294967296) (h2 : b < 256) (h3 : c < 256) : attrs_Text.f (a : Int) (b : Int) (c : Int) = some (textV a b c) := by
  rw [text_some _ _ _ (inA_nat h1 h2 h3)]
  rfl
end Go.Proofs.YtbiogabekhegaaaGreatDoor.Hand
