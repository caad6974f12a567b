/- An effect's line is read as it; what is read is written as that line. -/
import Derived.Test.YtbiogabekhegaaaGreatDoorHandParse07
import Derived.Test.YtbiogabekhegaaaGreatDoorHandEffs07
namespace Go.Proofs.YtbiogabekhegaaaGreatDoor.Hand
open Go.RowKit Go.Proofs.YtbiogabekhegaaaGreatDoorW.PrintWords Go.Proofs.YtbiogabekhegaaaGreatDoorW.PrintLast
open Go.Proofs.YtbiogabekhegaaaGreatDoor.PWritten (S27 S25 k27 z27 rd_T27 at_T27 k27_mk)
set_option linter.unusedVariables false
set_option linter.unusedSimpArgs false
/-! numbers -/
theorem itoaB_data (n : Int) : (itoaB n).data.toList = Lib.itoa n := by unfold itoaB; simp
theorem num_back7 (n : Int) (h0 : 0 ≤ n) (h1 : n ≤ 576460752303423488) : numOk (itoaB n) = true ∧ atoiV (itoaB n).data.toList = n := by
  obtain ⟨u, rfl⟩ := Int.eq_ofNat_of_zero_le h0
  have hd : (itoaB (u : Int)).data.toList = Lib.decDigits u := by rw [itoaB_data, itoa_dec]
  have ha := atoi_digs u (by omega)
  have hv : atoiV (itoaB (u : Int)).data.toList = u := by rw [hd]; unfold atoiV; rw [ha]
  have hs : (itoaB (u : Int)).size ≤ 18 := by
    rw [Lib.size_eq, hd, ← digs_dec]
    exact digs_len (by omega) (by omega) (by omega) (Nat.lt_of_le_of_lt (show u ≤ 576460752303423488 by omega) (by decide))
  refine ⟨?_, hv⟩
  unfold numOk
  rw [hv, hd]
  unfold atoiOk
  rw [ha, itoa_dec]
  simp [hs]
theorem num_text (s : ByteArray) (h : numOk s = true) : itoaB (atoiV s.data.toList) = s ∧ 0 ≤ atoiV s.data.toList := by
  unfold numOk at h
  simp only [Bool.and_eq_true, decide_eq_true_eq] at h
  refine ⟨?_, h.1.1.2⟩
  apply ba_ext
  rw [itoaB_data, h.2]
/-! bytes -/
theorem hexD_hex : ∀ d : Fin 16, isHex (hexD d.val) = true ∧ hexv (hexD d.val) = (d.val : Int) ∧ hexD d.val ≠ 32 ∧ hexD d.val ≠ 10 := by decide +kernel
theorem hexD_hex' (d : Nat) (h : d < 16) : isHex (hexD d) = true ∧ hexv (hexD d) = (d : Int) ∧ hexD d ≠ 32 ∧ hexD d ≠ 10 := hexD_hex ⟨d, h⟩
theorem hexL_cons (c : Int) (l : List Int) : hexL (c :: l) = hexD (c / 16).toNat :: hexD (c % 16).toNat :: hexL l := rfl
theorem hexL_all (l : List Int) (h : ∀ c ∈ l, 0 ≤ c ∧ c ≤ 255) : (hexL l).all isHex = true ∧ pairsL (hexL l) = l ∧ (32 : UInt8) ∉ hexL l ∧ (10 : UInt8) ∉ hexL l := by
  induction l with
  | nil => exact ⟨rfl, rfl, by simp [hexL], by simp [hexL]⟩
  | cons c r ih =>
    obtain ⟨h1, h2, h3, h4⟩ := ih (fun x hx => h x (List.mem_cons_of_mem _ hx))
    have hc := h c List.mem_cons_self
    obtain ⟨a1, a2, a3, a4⟩ := hexD_hex' (c / 16).toNat (by omega)
    obtain ⟨b1, b2, b3, b4⟩ := hexD_hex' (c % 16).toNat (by omega)
    rw [hexL_cons]
    refine ⟨by simp [a1, b1, h1], ?_, ?_, ?_⟩
    · show (16 * hexv _ + hexv _) :: pairsL (hexL r) = c :: r
      rw [a2, b2, h2]
      congr 1
      omega
    · intro hm
      rcases List.mem_cons.1 hm with e | hm
      · exact a3 e.symm
      · rcases List.mem_cons.1 hm with e | hm
        · exact b3 e.symm
        · exact h3 hm
    · intro hm
      rcases List.mem_cons.1 hm with e | hm
      · exact a4 e.symm
      · rcases List.mem_cons.1 hm with e | hm
        · exact b4 e.symm
        · exact h4 hm
theorem hexB_data (l : List Int) (h : l ≠ []) : (hexB l).data.toList = hexL l := by unfold hexB; rw [if_neg h]
theorem hexB_nil : hexB [] = ⟨#[45]⟩ := rfl
theorem told_hex (l : List Int) (h : ∀ c ∈ l, 0 ≤ c ∧ c ≤ 255) : toldOk (hexB l).data.toList = true ∧ toldL (hexB l).data.toList = l ∧ (32 : UInt8) ∉ (hexB l).data.toList ∧ (10 : UInt8) ∉ (hexB l).data.toList := by
  by_cases hl : l = []
  · subst hl
    rw [hexB_nil]
    exact ⟨rfl, rfl, by decide, by decide⟩
  · obtain ⟨h1, h2, h3, h4⟩ := hexL_all l h
    rw [hexB_data l hl]
    have hlen := hexL_length l
    have hl0 : l.length ≠ 0 := fun e => hl (List.eq_nil_of_length_eq_zero e)
    have hne : hexL l ≠ [45] := fun e => by rw [e] at hlen; simp at hlen; omega
    have hn0 : hexL l ≠ [] := fun e => by rw [e] at hlen; simp at hlen; omega
    have hok : toldOk (hexL l) = true := by
      unfold toldOk
      rw [h1, hlen, decide_eq_false hne, decide_eq_true hn0, decide_eq_true (by omega)]
      rfl
    refine ⟨hok, ?_, h3, h4⟩
    unfold toldL
    rw [if_neg hne, if_pos hok, h2]
theorem hexv_back (c : UInt8) (h : isHex c = true) : hexD (hexv c).toNat = c := by
  unfold isHex digL at h
  simp only [List.contains_cons, Bool.or_eq_true, beq_iff_eq, List.contains_nil, Bool.false_eq_true, or_false] at h
  rcases h with rfl | rfl | rfl | rfl | rfl | rfl | rfl | rfl | rfl | rfl | rfl | rfl | rfl | rfl | rfl | rfl <;> decide +kernel
theorem pairs_back : ∀ (n : Nat) (l : List UInt8), l.length = 2 * n → l.all isHex = true → hexL (pairsL l) = l ∧ (∀ y ∈ pairsL l, 0 ≤ y ∧ y ≤ 255) ∧ (pairsL l).length = n
  | 0, l, hl, _ => by
    obtain rfl : l = [] := List.eq_nil_of_length_eq_zero (by omega)
    exact ⟨rfl, fun y hy => (by cases hy), rfl⟩
  | n + 1, l, hl, hx => by
    match l, hl with
    | a :: b :: r, hl =>
      simp only [List.all_cons, Bool.and_eq_true] at hx
      obtain ⟨h1, h2, h3⟩ := pairs_back n r (by simp at hl; omega) hx.2.2
      have ra := hexv_range a hx.1
      have rb := hexv_range b hx.2.1
      have e : pairsL (a :: b :: r) = (16 * hexv a + hexv b) :: pairsL r := rfl
      refine ⟨?_, ?_, ?_⟩
      · rw [e, hexL_cons, h1, show (16 * hexv a + hexv b) / 16 = hexv a by omega, show (16 * hexv a + hexv b) % 16 = hexv b by omega, hexv_back a hx.1, hexv_back b hx.2.1]
      · rw [e]
        intro y hy
        rcases List.mem_cons.1 hy with rfl | hy
        · omega
        · exact h2 y hy
      · rw [e, List.length_cons, h3]
theorem hex_told (l : List UInt8) (h : toldOk l = true) : hexB (toldL l) = ba l ∧ (∀ y ∈ toldL l, 0 ≤ y ∧ y ≤ 255) ∧ (toldL l).length ≤ l.length := by
  by_cases h45 : l = [45]
  · subst h45
    exact ⟨rfl, fun y hy => (by cases hy), Nat.zero_le _⟩
  · have ho := h
    unfold toldOk at h
    rw [decide_eq_false h45, Bool.false_or, Bool.and_eq_true, Bool.and_eq_true, decide_eq_true_eq, decide_eq_true_eq] at h
    obtain ⟨⟨h0, h2⟩, h3⟩ := h
    obtain ⟨h4, h5, h6⟩ := pairs_back (l.length / 2) l (by omega) h3
    have e : toldL l = pairsL l := by unfold toldL; rw [if_neg h45, if_pos ho]
    have hl0 : l.length ≠ 0 := fun e => h0 (List.eq_nil_of_length_eq_zero e)
    rw [e]
    refine ⟨?_, h5, by rw [h6]; omega⟩
    apply ba_ext
    rw [hexB_data _ (fun e => by rw [e] at h6; simp at h6; omega), h4, data_ba]
/-! lines -/
def sE (x : S27) : Eff := ⟨x.f0, x.f1.f0, x.f1.f1, x.f1.f2, x.f2, x.f3, x.f4⟩
theorem effS_sE (x : S27) : effS (sE x) = x := rfl
def went7 (k : Nat) (x : S27) : List ByteArray := if kWent k = true then [if x.f4 = true then okW else failW] else []
def rest7 (k : Nat) (x : S27) : List ByteArray := if k < 2 then [joinV (partL x.f1.f0.toNat), itoaV x.f1.f1.toNat, itoaV x.f1.f2.toNat] else if k = 2 then [hexB x.f2, itoaB x.f3] else if k < 5 then [itoaB x.f3] else []
theorem join_last (c : UInt8) (ys : List (List UInt8)) (hy : ys ≠ []) : ∀ xs : List (List UInt8), joinB c (xs ++ [joinB c ys]) = joinB c (xs ++ ys)
  | [] => rfl
  | x :: r => by
    rw [List.cons_append, List.cons_append, join_cons c x _ (by simp), join_cons c x _ (by simp [hy]), join_last c ys hy r]
theorem wrK_rest (k : Nat) (x : S27) (hk : k < 5) : (wrK k x).data.toList = joinB 32 ((rest7 k x).map (·.data.toList)) := by
  unfold wrK rest7
  by_cases h2 : k < 2
  · rw [if_pos h2, if_pos h2]
    unfold textI textV wordsV
    rw [libjoin_eq]
    simp
  · rw [if_neg h2, if_neg h2]
    by_cases h3 : k = 2
    · rw [if_pos h3, if_pos h3]
      simp [joinB]
    · rw [if_neg h3, if_neg h3, if_pos hk]
      rfl
theorem lineB_words (k : Nat) (hk : k < 7) (x : S27) : lineB k x = ⟨(Lib.join (([kWord k] ++ went7 k x ++ rest7 k x).map (·.data.toList)) [32]).toArray⟩ := by
  unfold lineB
  congr 2
  rw [libjoin_eq, libjoin_eq]
  have e : lineW k x = [kWord k] ++ went7 k x ++ (if 0 < kMore k then [wrK k x] else []) := rfl
  rw [e]
  by_cases h5 : k < 5
  · have hm : 0 < kMore k := by
      obtain rfl | rfl | rfl | rfl | rfl : k = 0 ∨ k = 1 ∨ k = 2 ∨ k = 3 ∨ k = 4 := by omega
      all_goals decide
    rw [if_pos hm, List.map_append, List.map_append (l₂ := rest7 k x)]
    have : List.map (fun z : ByteArray => z.data.toList) [wrK k x] = [joinB 32 ((rest7 k x).map (·.data.toList))] := by rw [← wrK_rest k x h5]; rfl
    rw [this]
    refine join_last 32 _ ?_ _
    unfold rest7
    by_cases h2 : k < 2
    · rw [if_pos h2]; simp
    · rw [if_neg h2]
      by_cases h3 : k = 2
      · rw [if_pos h3]; simp
      · rw [if_neg h3, if_pos h5]; simp
  · have hm : kMore k = 0 := by
      obtain rfl | rfl : k = 5 ∨ k = 6 := by omega
      all_goals decide
    have hr : rest7 k x = [] := by unfold rest7; rw [if_neg (by omega), if_neg (by omega), if_neg h5]
    rw [hm, hr, if_neg (by omega)]
theorem kWord_free : ∀ k : Fin 7, (32 : UInt8) ∉ (kWord k.val).data.toList ∧ (10 : UInt8) ∉ (kWord k.val).data.toList := by decide +kernel
theorem okW_free : (32 : UInt8) ∉ okW.data.toList ∧ (10 : UInt8) ∉ okW.data.toList ∧ (32 : UInt8) ∉ failW.data.toList ∧ (10 : UInt8) ∉ failW.data.toList := by decide
theorem itoaB_free (n : Int) (h : 0 ≤ n) : (32 : UInt8) ∉ (itoaB n).data.toList ∧ (10 : UInt8) ∉ (itoaB n).data.toList := by
  obtain ⟨u, rfl⟩ := Int.eq_ofNat_of_zero_le h
  have e : itoaB (u : Int) = itoaV u := rfl
  rw [e]
  exact ⟨fun hm => absurd (itoaV_byte u 32 hm) (by decide), fun hm => absurd (itoaV_byte u 10 hm) (by decide)⟩
theorem joinV_free (fl : Nat) : (32 : UInt8) ∉ (joinV (partL fl)).data.toList ∧ (10 : UInt8) ∉ (joinV (partL fl)).data.toList := by
  have key : ∀ d : UInt8, d.toNat < 43 → d ∉ (joinV (partL fl)).data.toList := by
    intro d hd hm
    unfold joinV at hm
    rw [libjoin_eq] at hm
    have hm' : d ∈ joinB 43 ((partL fl).map (·.data.toList)) := by simpa using hm
    refine join_mem 43 d (fun e => by subst e; exact absurd hd (by decide)) _ ?_ hm'
    intro p hp hc
    obtain ⟨x, hx, rfl⟩ := List.mem_map.mp hp
    have := part_byte fl x hx d hc
    omega
  exact ⟨key 32 (by decide), key 10 (by decide)⟩
theorem words_free (k : Nat) (hk : k < 7) (x : S27) (h : EffWr x) (h0 : 0 ≤ x.f3) : ∀ p ∈ [kWord k] ++ went7 k x ++ rest7 k x, (32 : UInt8) ∉ p.data.toList ∧ (10 : UInt8) ∉ p.data.toList := by
  intro p hp
  rcases List.mem_append.1 hp with hp | hp
  · rcases List.mem_append.1 hp with hp | hp
    · rw [List.mem_singleton.1 hp]
      exact kWord_free ⟨k, hk⟩
    · unfold went7 at hp
      split at hp
      · rw [List.mem_singleton.1 hp]
        split
        · exact ⟨okW_free.1, okW_free.2.1⟩
        · exact ⟨okW_free.2.2.1, okW_free.2.2.2⟩
      · cases hp
  · unfold rest7 at hp
    split at hp
    · simp only [List.mem_cons, List.not_mem_nil, or_false] at hp
      rcases hp with rfl | rfl | rfl
      · exact joinV_free _
      · exact itoaB_free (x.f1.f1.toNat : Int) (by omega)
      · exact itoaB_free (x.f1.f2.toNat : Int) (by omega)
    · split at hp
      · simp only [List.mem_cons, List.not_mem_nil, or_false] at hp
        rcases hp with rfl | rfl
        · exact (told_hex x.f2 h.d).2.2
        · exact itoaB_free _ h0
      · split at hp
        · rw [List.mem_singleton.1 hp]
          exact itoaB_free _ h0
        · cases hp
theorem pieces_line (k : Nat) (hk : k < 7) (x : S27) (h : EffWr x) (h0 : 0 ≤ x.f3) : pieces 32 (lineB k x) = kWord k :: (went7 k x ++ rest7 k x) := by
  rw [lineB_words k hk x, pieces_join 32 _ (by simp) (fun p hp => (words_free k hk x h h0 p hp).1)]
  rfl
/-! what is bare -/
theorem str_len0 (l : List Int) (h : ((strOfNums l).toList == (strOfNums []).toList) = true) : l = [] := by
  rw [ba_beq, decide_eq_true_eq] at h
  have := congrArg ByteArray.size h
  rw [strOfNums_size, strOfNums_size] at this
  exact List.eq_nil_of_length_eq_zero this
theorem bare_eq (x : S27) (h : sameE x (bareE x) = true) : x = bareE x := by
  unfold sameE at h
  simp only [Bool.and_eq_true, decide_eq_true_eq, beq_iff_eq] at h
  obtain ⟨⟨⟨⟨h0, h1, h2, h3⟩, h4⟩, h5⟩, h6⟩ := h
  have hd : x.f2 = (bareE x).f2 := by
    by_cases hk : x.f0 = 2
    · show x.f2 = if x.f0 = 2 then x.f2 else []
      rw [if_pos hk]
    · have e : (bareE x).f2 = [] := if_neg hk
      rw [e] at h6 ⊢
      exact str_len0 _ (by rw [h6]; exact beq_self_eq_true _)
  obtain ⟨a, ⟨b, c, d⟩, e, f, g⟩ := x
  generalize bareE ⟨a, ⟨b, c, d⟩, e, f, g⟩ = y at *
  obtain ⟨a', ⟨b', c', d'⟩, e', f', g'⟩ := y
  simp only at h0 h1 h2 h3 h4 h5 hd
  rw [h0, h1, h2, h3, h4, h5, hd]
theorem same_refl (x : S27) : sameE x x = true := by unfold sameE; simp
/-- What a line told is what the effect is. -/
structure Bare (k : Nat) (x : S27) : Prop where
  kk : x.f0 = k
  a : ¬ k < 2 → x.f1 = ⟨0, 0, 0⟩
  d : k ≠ 2 → x.f2 = []
  n : ¬ (2 ≤ k ∧ k < 5) → x.f3 = 0
  o : ¬ k < 4 → x.f4 = false
  p : 0 ≤ x.f3
theorem Bare.same {k : Nat} {x : S27} (hk : k < 7) (h : Bare k x) : x = bareE x := by
  obtain ⟨a, b, c, d, e⟩ := x
  obtain ⟨h1, h2, h3, h4, h5, h6⟩ := h
  simp only at h1 h2 h3 h4 h5 h6
  subst h1
  obtain rfl | rfl | rfl | rfl | rfl | rfl | rfl : k = 0 ∨ k = 1 ∨ k = 2 ∨ k = 3 ∨ k = 4 ∨ k = 5 ∨ k = 6 := by omega
  · rw [h3 (by decide), h4 (by decide)]; rfl
  · rw [h3 (by decide), h4 (by decide)]; rfl
  · rw [h2 (by decide)]; rfl
  · rw [h2 (by decide), h3 (by decide)]; rfl
  · rw [h2 (by decide), h3 (by decide), h5 (by decide)]; rfl
  · rw [h2 (by decide), h3 (by decide), h4 (by decide), h5 (by decide)]; rfl
  · rw [h2 (by decide), h3 (by decide), h4 (by decide), h5 (by decide)]; rfl
theorem Bare.of (x : S27) (h : (lineR x).2 = 0) : ∃ k, k < 7 ∧ Bare k x ∧ lineR x = (lineB k x, 0) := by
  unfold lineR at h ⊢
  by_cases h1 : x.f0 < 0 ∨ 7 ≤ x.f0
  · rw [if_pos h1] at h; exact absurd h (by decide)
  · rw [if_neg h1] at h ⊢
    by_cases h2 : x.f3 < 0 ∨ sameE x (bareE x) = false
    · rw [if_pos h2] at h; exact absurd h (by decide)
    · rw [if_neg h2]
      have hs : sameE x (bareE x) = true := by
        cases hh : sameE x (bareE x)
        · exact absurd (.inr hh) h2
        · rfl
      have he := bare_eq x hs
      have h3 : 0 ≤ x.f3 := by
        have : ¬ x.f3 < 0 := fun e => h2 (.inl e)
        omega
      have hk : x.f0 = (x.f0.toNat : Int) := by omega
      refine ⟨x.f0.toNat, by omega, ⟨hk, ?_, ?_, ?_, ?_, h3⟩, rfl⟩
      · intro hn
        rw [he]
        exact if_neg (by omega)
      · intro hn
        rw [he]
        exact if_neg (by omega)
      · intro hn
        rw [he]
        exact if_neg (by omega)
      · intro hn
        rw [he]
        exact if_neg (by omega)
theorem Bare.line {k : Nat} {x : S27} (hk : k < 7) (h : Bare k x) : lineR x = (lineB k x, 0) := by
  unfold lineR
  rw [if_neg (by rw [h.kk]; omega), if_neg (fun e => e.elim (fun e => by have := h.p; omega) (fun e => by rw [← h.same hk, same_refl] at e; cases e))]
  rw [h.kk]
  rfl
theorem line_free (k : Nat) (hk : k < 7) (x : S27) (h : EffWr x) (h0 : 0 ≤ x.f3) : (10 : UInt8) ∉ (lineB k x).data.toList := by
  rw [lineB_words k hk x, libjoin_eq]
  show (10 : UInt8) ∉ (joinB 32 _).toArray.toList
  refine join_mem 32 10 (by decide) _ ?_
  intro p hp
  obtain ⟨z, hz, rfl⟩ := List.mem_map.1 hp
  exact (words_free k hk x h h0 z hz).2
/-! there -/
theorem fin_line (k : Nat) (hk : k < 7) (x : S27) (hb : Bare k x) (h : EffWr x) (hn : x.f3 ≤ 576460752303423488) (b : Bool) (ho : k < 4 → b = x.f4) (ho2 : ¬ k < 4 → b = false) : finK k (rest7 k x) ⟨k, 0, 0, 0, [], 0, b⟩ = some (sE x) := by
  obtain ⟨hm, hv⟩ := num_back7 x.f3 hb.p hn
  obtain ⟨a, ⟨b1, b2, b3⟩, c, d, e⟩ := x
  obtain ⟨h1, h2, h3, h4, h5, h6⟩ := hb
  simp only at h1 h2 h3 h4 h5 h6 hm hv ho
  subst h1
  obtain ⟨g1, g2, g3, g4, g5, g6⟩ := (inA_iff _ _ _).1 h.i
  simp only at g1 g2 g3 g4 g5 g6
  have htx : readV (textV b1.toNat b2.toNat b3.toNat) = (b1, b2, b3, 0) := by
    rw [readV_text _ _ _ (by omega) (by omega) (by omega)]
    rw [show ((b1.toNat : Nat) : Int) = b1 by omega, show ((b2.toNat : Nat) : Int) = b2 by omega, show ((b3.toNat : Nat) : Int) = b3 by omega]
  obtain ⟨t1, t2, _, _⟩ := told_hex c h.d
  obtain rfl | rfl | rfl | rfl | rfl | rfl | rfl : k = 0 ∨ k = 1 ∨ k = 2 ∨ k = 3 ∨ k = 4 ∨ k = 5 ∨ k = 6 := by omega
  · obtain rfl := h3 (by decide)
    obtain rfl := h4 (by decide)
    obtain rfl := ho (by decide)
    have e1 : rdK 0 (rest7 0 ⟨((0 : Nat) : Int), ⟨b1, b2, b3⟩, [], 0, b⟩) ⟨((0 : Nat) : Int), 0, 0, 0, [], 0, b⟩ = ((readV (textV b1.toNat b2.toNat b3.toNat)).2.2.2 == 0, ⟨0, (readV (textV b1.toNat b2.toNat b3.toNat)).1, (readV (textV b1.toNat b2.toNat b3.toNat)).2.1, (readV (textV b1.toNat b2.toNat b3.toNat)).2.2.1, [], 0, b⟩) := rfl
    rw [htx] at e1
    exact fin_ok rfl (by rw [e1]; rfl) (by rw [e1]; rfl)
  · obtain rfl := h3 (by decide)
    obtain rfl := h4 (by decide)
    obtain rfl := ho (by decide)
    have e1 : rdK 1 (rest7 1 ⟨((1 : Nat) : Int), ⟨b1, b2, b3⟩, [], 0, b⟩) ⟨((1 : Nat) : Int), 0, 0, 0, [], 0, b⟩ = ((readV (textV b1.toNat b2.toNat b3.toNat)).2.2.2 == 0, ⟨1, (readV (textV b1.toNat b2.toNat b3.toNat)).1, (readV (textV b1.toNat b2.toNat b3.toNat)).2.1, (readV (textV b1.toNat b2.toNat b3.toNat)).2.2.1, [], 0, b⟩) := rfl
    rw [htx] at e1
    exact fin_ok rfl (by rw [e1]; rfl) (by rw [e1]; rfl)
  · have e0 := h2 (by decide)
    simp only [Go.Proofs.YtbiogabekhegaaaGreatDoor.PWritten.S25.mk.injEq] at e0
    obtain ⟨rfl, rfl, rfl⟩ := e0
    obtain rfl := ho (by decide)
    have e1 : rdK 2 (rest7 2 ⟨((2 : Nat) : Int), ⟨0, 0, 0⟩, c, d, b⟩) ⟨((2 : Nat) : Int), 0, 0, 0, [], 0, b⟩ = (toldOk (hexB c).data.toList && numOk (itoaB d), ⟨2, 0, 0, 0, toldL (hexB c).data.toList, if toldOk (hexB c).data.toList = true then atoiV (itoaB d).data.toList else 0, b⟩) := rfl
    rw [t1, t2, hm, hv, if_pos rfl] at e1
    exact fin_ok rfl (by rw [e1]; rfl) (by rw [e1]; rfl)
  · have e0 := h2 (by decide)
    simp only [Go.Proofs.YtbiogabekhegaaaGreatDoor.PWritten.S25.mk.injEq] at e0
    obtain ⟨rfl, rfl, rfl⟩ := e0
    obtain rfl := h3 (by decide)
    obtain rfl := ho (by decide)
    have e1 : rdK 3 (rest7 3 ⟨((3 : Nat) : Int), ⟨0, 0, 0⟩, [], d, b⟩) ⟨((3 : Nat) : Int), 0, 0, 0, [], 0, b⟩ = (numOk (itoaB d), ⟨3, 0, 0, 0, [], atoiV (itoaB d).data.toList, b⟩) := rfl
    rw [hm, hv] at e1
    exact fin_ok rfl (by rw [e1]) (by rw [e1]; rfl)
  · have e0 := h2 (by decide)
    simp only [Go.Proofs.YtbiogabekhegaaaGreatDoor.PWritten.S25.mk.injEq] at e0
    obtain ⟨rfl, rfl, rfl⟩ := e0
    obtain rfl := h3 (by decide)
    obtain rfl := h5 (by decide)
    obtain rfl := ho2 (by decide)
    have e1 : rdK 4 (rest7 4 ⟨((4 : Nat) : Int), ⟨0, 0, 0⟩, [], d, false⟩) ⟨((4 : Nat) : Int), 0, 0, 0, [], 0, false⟩ = (numOk (itoaB d), ⟨4, 0, 0, 0, [], atoiV (itoaB d).data.toList, false⟩) := rfl
    rw [hm, hv] at e1
    exact fin_ok rfl (by rw [e1]) (by rw [e1]; rfl)
  · have e0 := h2 (by decide)
    simp only [Go.Proofs.YtbiogabekhegaaaGreatDoor.PWritten.S25.mk.injEq] at e0
    obtain ⟨rfl, rfl, rfl⟩ := e0
    obtain rfl := h3 (by decide)
    obtain rfl := h4 (by decide)
    obtain rfl := h5 (by decide)
    obtain rfl := ho2 (by decide)
    exact fin_ok rfl rfl rfl
  · have e0 := h2 (by decide)
    simp only [Go.Proofs.YtbiogabekhegaaaGreatDoor.PWritten.S25.mk.injEq] at e0
    obtain ⟨rfl, rfl, rfl⟩ := e0
    obtain rfl := h3 (by decide)
    obtain rfl := h4 (by decide)
    obtain rfl := h5 (by decide)
    obtain rfl := ho2 (by decide)
    exact fin_ok rfl rfl rfl
theorem read_line (k : Nat) (hk : k < 7) (x : S27) (hb : Bare k x) (h : EffWr x) (hn : x.f3 ≤ 576460752303423488) : readS (lineB k x).data.toList = (x, 0) := by
  have hr : readW (kWord k) (went7 k x ++ rest7 k x) = some (sE x) := by
    rw [readW_at hk]
    by_cases h4 : k < 4
    · have hw : kWent k = true := decide_eq_true h4
      unfold went7
      rw [if_pos hw]
      show bodyK k ((if x.f4 = true then okW else failW) :: rest7 k x) = _
      rw [body_went (b := x.f4) (rest7 k x) hw (by split <;> simp) (by cases x.f4 <;> decide)]
      exact fin_line k hk x hb h hn x.f4 (fun _ => rfl) (fun e => absurd h4 e)
    · have hw : kWent k = false := decide_eq_false h4
      unfold went7
      rw [if_neg (by rw [hw]; decide)]
      show bodyK k (rest7 k x) = _
      rw [body_bare (rest7 k x) hw]
      exact fin_line k hk x hb h hn false (fun e => absurd e h4) (fun _ => rfl)
  unfold readS
  rw [ba_data, pieces_line k hk x h hb.p]
  simp only
  unfold readR
  rw [hr]
  rfl
/-! and back -/
theorem list2 {α : Type} {l : List α} (h : l.length = 2) : ∃ a b, l = [a, b] := by
  match l, h with
  | [a, b], _ => exact ⟨a, b, rfl⟩
theorem list1 {α : Type} {l : List α} (h : l.length = 1) : ∃ a, l = [a] := by
  match l, h with
  | [a], _ => exact ⟨a, rfl⟩
theorem fin_text (k : Nat) (hk : k < 7) (r : List ByteArray) (b : Bool) (y : Eff) (ho : ¬ k < 4 → b = false) (hsz : ∀ z ∈ r, z.data.toList.length ≤ 30000) (h : finK k r ⟨k, 0, 0, 0, [], 0, b⟩ = some y) :
    Bare k (effS y) ∧ EffWr (effS y) ∧ (effS y).f2.length ≤ 30000 ∧ (effS y).f4 = b ∧ (k < 5 → r ≠ [] ∧ (wrK k (effS y)).data.toList = joinB 32 (r.map (·.data.toList))) ∧ (¬ k < 5 → r = []) := by
  unfold finK at h
  by_cases hc : r.length = kMore k ∧ (rdK k r ⟨k, 0, 0, 0, [], 0, b⟩).1 = true
  · rw [if_pos hc] at h
    have hy := (Option.some.inj h).symm
    obtain ⟨hl, hok⟩ := hc
    clear h
    by_cases h2 : k < 2
    · have hm : kMore k = 3 := by
        obtain rfl | rfl : k = 0 ∨ k = 1 := by omega
        all_goals rfl
      have e1 : rdK k r ⟨k, 0, 0, 0, [], 0, b⟩ = (((readV ⟨(Lib.join (r.map (·.data.toList)) [32]).toArray⟩).2.2.2 == 0), ⟨k, (readV ⟨(Lib.join (r.map (·.data.toList)) [32]).toArray⟩).1, (readV ⟨(Lib.join (r.map (·.data.toList)) [32]).toArray⟩).2.1, (readV ⟨(Lib.join (r.map (·.data.toList)) [32]).toArray⟩).2.2.1, [], 0, b⟩) := by
        unfold rdK
        rw [if_pos h2]
      rw [e1] at hok hy
      have hJ : (⟨(Lib.join (r.map (·.data.toList)) [32]).toArray⟩ : ByteArray).data.toList = joinB 32 (r.map (·.data.toList)) := by rw [libjoin_eq]
      generalize (⟨(Lib.join (r.map (·.data.toList)) [32]).toArray⟩ : ByteArray) = J at *
      rcases readV_cases J with ⟨fl, mn, tm, g1, g2, g3, rfl, hv⟩ | ⟨hv, _⟩
      · rw [hv] at hy
        obtain rfl : y = ⟨k, fl, mn, tm, [], 0, b⟩ := hy
        refine ⟨⟨rfl, fun e => absurd h2 e, fun _ => rfl, fun _ => rfl, fun e => absurd (show k < 4 by omega) e, Int.le_refl _⟩, ⟨inA_nat g1 g2 g3, fun z hz => absurd hz List.not_mem_nil, (show (-9223372036854775808 : Int) ≤ 0 by decide), (show (0 : Int) ≤ 9223372036854775807 by decide), Nat.zero_le _⟩, Nat.zero_le _, rfl, fun _ => ⟨fun e => (by rw [e, hm] at hl; cases hl), ?_⟩, fun e => absurd (show k < 5 by omega) e⟩
        rw [← hJ]
        unfold wrK
        rw [if_pos h2]
        show (textV ((fl : Int)).toNat ((mn : Int)).toNat ((tm : Int)).toNat).data.toList = _
        rw [Int.toNat_natCast, Int.toNat_natCast, Int.toNat_natCast]
      · rw [hv] at hok
        cases hok
    · by_cases h3 : k = 2
      · subst h3
        obtain ⟨z, n, rfl⟩ := list2 (hl.trans rfl)
        have e1 : rdK 2 [z, n] ⟨((2 : Nat) : Int), 0, 0, 0, [], 0, b⟩ = (toldOk z.data.toList && numOk n, ⟨2, 0, 0, 0, toldL z.data.toList, if toldOk z.data.toList = true then atoiV n.data.toList else 0, b⟩) := rfl
        rw [e1] at hok hy
        simp only [Bool.and_eq_true] at hok
        obtain ⟨o1, o2⟩ := hok
        obtain ⟨q1, q2, q3⟩ := hex_told _ o1
        obtain ⟨n1, n2⟩ := num_text n o2
        obtain ⟨r1, r2⟩ := atoi_range n.data.toList
        rw [if_pos o1] at hy
        have hz := hsz z List.mem_cons_self
        obtain rfl : y = ⟨2, 0, 0, 0, toldL z.data.toList, atoiV n.data.toList, b⟩ := hy
        refine ⟨⟨rfl, fun _ => rfl, fun e => absurd rfl e, fun e => absurd ⟨Nat.le_refl _, by decide⟩ e, fun e => absurd (by decide) e, n2⟩, ⟨(show inA 0 0 0 = true by decide), q2, r1, r2, Nat.le_trans q3 (by omega)⟩, Nat.le_trans q3 hz, rfl, fun _ => ⟨by simp, ?_⟩, fun e => absurd (by decide) e⟩
        show (hexB (toldL z.data.toList) ++ ⟨#[32]⟩ ++ itoaB (atoiV n.data.toList)).data.toList = _
        rw [q1, n1, ba_data]
        simp [joinB]
      · by_cases h5 : k < 5
        · have hm : kMore k = 1 := by
            obtain rfl | rfl : k = 3 ∨ k = 4 := by omega
            all_goals rfl
          obtain ⟨n, rfl⟩ := list1 (hl.trans hm)
          have e1 : rdK k [n] ⟨(k : Int), 0, 0, 0, [], 0, b⟩ = (numOk n, ⟨k, 0, 0, 0, [], atoiV n.data.toList, b⟩) := by
            unfold rdK
            rw [if_neg h2, if_neg h3, if_pos h5]
            rfl
          rw [e1] at hok hy
          obtain ⟨n1, n2⟩ := num_text n hok
          obtain ⟨r1, r2⟩ := atoi_range n.data.toList
          obtain rfl : y = ⟨k, 0, 0, 0, [], atoiV n.data.toList, b⟩ := hy
          refine ⟨⟨rfl, fun _ => rfl, fun _ => rfl, fun e => absurd ⟨by omega, h5⟩ e, ho, n2⟩, ⟨(show inA 0 0 0 = true by decide), fun z hz => absurd hz List.not_mem_nil, r1, r2, Nat.zero_le _⟩, Nat.zero_le _, rfl, fun _ => ⟨by simp, ?_⟩, fun e => absurd h5 e⟩
          unfold wrK
          rw [if_neg h2, if_neg h3]
          show (itoaB (atoiV n.data.toList)).data.toList = _
          rw [n1]
          rfl
        · have hm : kMore k = 0 := by
            obtain rfl | rfl : k = 5 ∨ k = 6 := by omega
            all_goals rfl
          obtain rfl := List.eq_nil_of_length_eq_zero (hl.trans hm)
          have e1 : rdK k [] ⟨(k : Int), 0, 0, 0, [], 0, b⟩ = (true, ⟨k, 0, 0, 0, [], 0, b⟩) := by
            unfold rdK
            rw [if_neg h2, if_neg h3, if_neg h5]
          rw [e1] at hy
          obtain rfl : y = ⟨k, 0, 0, 0, [], 0, b⟩ := hy
          exact ⟨⟨rfl, fun _ => rfl, fun _ => rfl, fun _ => rfl, ho, Int.le_refl _⟩, ⟨(show inA 0 0 0 = true by decide), fun z hz => absurd hz List.not_mem_nil, (show (-9223372036854775808 : Int) ≤ 0 by decide), (show (0 : Int) ≤ 9223372036854775807 by decide), Nat.zero_le _⟩, Nat.zero_le _, rfl, fun e => absurd e h5, fun _ => rfl⟩
  · rw [if_neg hc] at h
    cases h
theorem kindOf_some {w0 : ByteArray} {k : Nat} (h : kindOf w0 = some k) : k < 7 ∧ w0 = kWord k := by
  unfold kindOf at h
  have h1 := List.find?_some h
  have h2 := List.mem_of_find?_eq_some h
  exact ⟨List.mem_range.1 h2, (of_decide_eq_true h1).symm⟩
theorem map_ba (qs : List (List UInt8)) : (qs.map ba).map (·.data.toList) = qs := by
  rw [List.map_map]
  conv => rhs; rw [← List.map_id qs]
  refine List.map_congr_left fun q _ => ?_
  exact data_ba q
theorem read_text (p : List UInt8) (hp : p.length ≤ 30000) (x : S27) (h : readS p = (x, 0)) : ∃ k, k < 7 ∧ Bare k x ∧ EffWr x ∧ x.f2.length ≤ 30000 ∧ lineB k x = ba p := by
  have hj := join_split 32 p
  have hs : ∀ z ∈ splitB 32 p, z.length ≤ 30000 := by
    intro z hz
    have := pieces_size 32 (ba p) (ba z) (by unfold pieces; rw [data_ba]; exact List.mem_map_of_mem hz)
    rw [Lib.size_eq, Lib.size_eq, data_ba, data_ba] at this
    omega
  unfold readS pieces at h
  rw [data_ba, split_ne 32 p] at h
  rw [split_ne 32 p] at hj hs
  generalize (splitB 32 p).headD [] = q0 at *
  generalize (splitB 32 p).tail = qs at *
  simp only [List.map_cons] at h
  have hr : ∃ y, readW (ba q0) (qs.map ba) = some y ∧ x = effS y := by
    unfold readR at h
    cases hw : readW (ba q0) (qs.map ba) with
    | none =>
      rw [hw] at h
      have h8 : (8 : Int) = 0 := congrArg Prod.snd h
      exact absurd h8 (by decide)
    | some y =>
      rw [hw] at h
      have h8 : effS y = x := congrArg Prod.fst h
      exact ⟨y, rfl, h8.symm⟩
  obtain ⟨y, hw, rfl⟩ := hr
  unfold readW at hw
  obtain ⟨k, hk, hb⟩ := Option.bind_eq_some_iff.1 hw
  obtain ⟨hk7, hq⟩ := kindOf_some hk
  have hq0 : q0 = (kWord k).data.toList := by rw [← hq, data_ba]
  have hqs := map_ba qs
  have hsz : ∀ z ∈ qs.map ba, z.data.toList.length ≤ 30000 := by
    intro z hz
    obtain ⟨q, hq, rfl⟩ := List.mem_map.1 hz
    rw [data_ba]
    exact hs q (List.mem_cons_of_mem _ hq)
  generalize qs.map ba = r at *
  subst hqs
  have hp2 : p = joinB 32 ((kWord k).data.toList :: r.map (·.data.toList)) := by rw [← hj, hq0]
  clear h hw hk hj hs hq
  unfold bodyK at hb
  by_cases h4 : k < 4
  · have hw : kWent k = true := decide_eq_true h4
    rw [if_pos hw] at hb
    cases r with
    | nil => cases hb
    | cons r0 r' =>
      simp only at hb
      by_cases hr0 : r0 = okW ∨ r0 = failW
      · rw [if_pos hr0] at hb
        obtain ⟨g1, g2, g3, g4, g5, g6⟩ := fin_text k hk7 r' (decide (r0 = okW)) y (fun e => absurd h4 e) (fun z hz => hsz z (List.mem_cons_of_mem _ hz)) hb
        obtain ⟨g7, g8⟩ := g5 (by omega)
        refine ⟨k, hk7, g1, g2, g3, ?_⟩
        apply ba_ext
        rw [data_ba, hp2]
        have hm : 0 < kMore k := by
          obtain rfl | rfl | rfl | rfl : k = 0 ∨ k = 1 ∨ k = 2 ∨ k = 3 := by omega
          all_goals decide
        have hr : (if (effS y).f4 = true then okW else failW) = r0 := by
          rw [g4]
          rcases hr0 with e | e
          · rw [e]; rfl
          · rw [e]; rfl
        unfold lineB lineW
        rw [if_pos hw, if_pos hm, hr, libjoin_eq]
        show (joinB 32 [(kWord k).data.toList, r0.data.toList, (wrK k (effS y)).data.toList]).toArray.toList = _
        rw [g8]
        exact join_last 32 _ (by simpa using g7) [(kWord k).data.toList, r0.data.toList]
      · rw [if_neg hr0] at hb
        cases hb
  · have hw : kWent k = false := decide_eq_false h4
    rw [if_neg (by rw [hw]; decide)] at hb
    obtain ⟨g1, g2, g3, g4, g5, g6⟩ := fin_text k hk7 r false y (fun _ => rfl) hsz hb
    refine ⟨k, hk7, g1, g2, g3, ?_⟩
    apply ba_ext
    rw [data_ba, hp2]
    unfold lineB lineW
    rw [if_neg (by rw [hw]; decide), libjoin_eq]
    by_cases h5 : k < 5
    · obtain ⟨g7, g8⟩ := g5 h5
      have hm : 0 < kMore k := by
        obtain rfl : k = 4 := by omega
        decide
      rw [if_pos hm]
      show (joinB 32 [(kWord k).data.toList, (wrK k (effS y)).data.toList]).toArray.toList = _
      rw [g8]
      exact join_last 32 _ (by simpa using g7) [(kWord k).data.toList]
    · obtain rfl := g6 h5
      have hm : ¬ 0 < kMore k := by
        obtain rfl | rfl : k = 5 ∨ k = 6 := by omega
        all_goals decide
      rw [if_neg hm]
      rfl
/-! rows -/
theorem line_short (x : S27) (h : EffWr x) (hl : x.f2.length ≤ 1500) : (lineR x).1.size ≤ 9700 := by
  unfold lineR
  split
  · exact Nat.zero_le _
  · split
    · exact Nat.zero_le _
    · generalize x.f0.toNat = k
      have hw : (wrK k x).size ≤ 3200 := by
        unfold wrK
        split
        · exact Nat.le_trans (textI_size _ _ _ h.i) (by omega)
        · split
          · have h2 := itoa_len x.f3 h.n0 h.n1
            have h1 : (hexB x.f2).size ≤ 3001 := by
              unfold hexB
              split
              · decide
              · rw [Lib.size_eq]
                show (hexL x.f2).toArray.toList.length ≤ _
                have := hexL_length x.f2
                simp
                omega
            rw [ByteArray.size_append, ByteArray.size_append]
            show (hexB x.f2).size + 1 + _ ≤ _
            omega
          · exact Nat.le_trans (itoa_len x.f3 h.n0 h.n1) (by omega)
      have hk : (kWord k).size ≤ 3200 := by
        unfold kWord kWords
        rcases Nat.lt_or_ge k 7 with h7 | h7
        · obtain rfl | rfl | rfl | rfl | rfl | rfl | rfl : k = 0 ∨ k = 1 ∨ k = 2 ∨ k = 3 ∨ k = 4 ∨ k = 5 ∨ k = 6 := by omega
          all_goals decide
        · rw [List.getD_eq_getElem?_getD, List.getElem?_eq_none (by simpa using h7)]; exact Nat.zero_le _
      have hok : (if x.f4 = true then okW else failW).size ≤ 3200 := by split <;> decide
      rw [Lib.size_eq]
      unfold lineB
      rw [show ∀ l : List UInt8, (⟨l.toArray⟩ : ByteArray).data.toList = l from fun l => by simp]
      have j1 := join_len3 (kWord k) (if x.f4 = true then okW else failW) (wrK k x) _ hk hok hw
      have j2 := join_len3 (kWord k) (wrK k x) (wrK k x) _ hk hw hw
      unfold lineW
      by_cases h1 : kWent k = true
      · by_cases h2 : 0 < kMore k
        · rw [if_pos h1, if_pos h2]; exact Nat.le_trans j1.1 (by omega)
        · rw [if_pos h1, if_neg h2]; exact Nat.le_trans j1.2.1 (by omega)
      · by_cases h2 : 0 < kMore k
        · rw [if_neg h1, if_pos h2]; exact Nat.le_trans j2.2.1 (by omega)
        · rw [if_neg h1, if_neg h2]; exact Nat.le_trans j2.2.2 (by omega)
theorem bad_cons {x : S27} {r : List S27} (h : fmtBad (x :: r) = 0) : (lineR x).2 = 0 ∧ fmtBad r = 0 := by
  have e : fmtBad (x :: r) = if (lineR x).2 = 0 then fmtBad r else (lineR x).2 := rfl
  rw [e] at h
  by_cases h0 : (lineR x).2 = 0
  · rw [if_pos h0] at h; exact ⟨h0, h⟩
  · rw [if_neg h0] at h; exact absurd h h0
theorem fmtL_cons (x : S27) (r : List S27) : fmtL (x :: r) = (lineR x).1.data.toList ++ 10 :: fmtL r := by
  show fmtE x ++ fmtL r = _
  unfold fmtE
  rw [List.append_assoc]
  rfl
theorem prs_fmt : ∀ (l : List S27) (acc : List S27), (∀ x ∈ l, EffWr x) → (∀ x ∈ l, x.f3 ≤ 576460752303423488) → (∀ x ∈ l, x.f2.length ≤ 1500) → fmtBad l = 0 →
    prsL (splitB 10 (fmtL l)) acc = (acc ++ l, acc.length + l.length, 0) ∧ (∀ p ∈ splitB 10 (fmtL l), p.length ≤ 30000) ∧ (fmtL l).length ≤ 9701 * l.length
  | [], acc, _, _, _, _ => by
    refine ⟨?_, fun p hp => ?_, Nat.le_refl _⟩
    · show prsL [[]] acc = _
      unfold prsL
      rw [if_pos rfl, if_pos rfl, List.append_nil]
      rfl
    · rw [List.mem_singleton.1 hp]; exact Nat.zero_le _
  | x :: r, acc, hE, hN, hS, hb => by
    obtain ⟨h0, hb2⟩ := bad_cons hb
    obtain ⟨k, hk, hB, hln⟩ := Bare.of x h0
    have hx := hE x List.mem_cons_self
    obtain ⟨i1, i2, i3⟩ := prs_fmt r (acc ++ [x]) (fun y hy => hE y (List.mem_cons_of_mem _ hy)) (fun y hy => hN y (List.mem_cons_of_mem _ hy)) (fun y hy => hS y (List.mem_cons_of_mem _ hy)) hb2
    have hsh := line_short x hx (hS x List.mem_cons_self)
    have hfr := line_free k hk x hx hB.p
    have hrd := read_line k hk x hB hx (hN x List.mem_cons_self)
    rw [fmtL_cons]
    rw [hln] at hsh ⊢
    simp only at hsh ⊢
    rw [split_app 10 _ _ hfr]
    rw [Lib.size_eq] at hsh
    refine ⟨?_, fun p hp => ?_, ?_⟩
    · rw [prs_ok _ _ (splitB_ne 10 _) (by rw [hrd]), hrd, i1]
      simp only [List.append_assoc, List.singleton_append, List.length_append, List.length_cons, List.length_nil]
      rw [show acc.length + (0 + 1) + r.length = acc.length + (r.length + 1) by omega]
    · rcases List.mem_cons.1 hp with rfl | hp
      · omega
      · exact i2 p hp
    · rw [List.length_append, List.length_cons, List.length_cons]
      omega
theorem fmt_prs : ∀ (ps : List (List UInt8)) (acc m : List S27) (n : Nat), ps ≠ [] → (∀ p ∈ ps, p.length ≤ 30000) → prsL ps acc = (m, n, 0) →
    ∃ l, m = acc ++ l ∧ n = m.length ∧ l.length < ps.length ∧ fmtBad l = 0 ∧ (∀ x ∈ l, EffWr x) ∧ fmtL l = joinB 10 ps
  | [], _, _, _, h, _, _ => absurd rfl h
  | [x], acc, m, n, _, _, h => by
    unfold prsL at h
    rw [if_pos rfl] at h
    by_cases hx : x = []
    · rw [if_pos hx] at h
      simp only [Prod.mk.injEq] at h
      obtain ⟨rfl, rfl, _⟩ := h
      subst hx
      exact ⟨[], by simp, rfl, by simp, rfl, fun x hx => (by cases hx), rfl⟩
    · rw [if_neg hx] at h
      simp only [Prod.mk.injEq] at h
      exact absurd h.2.2 (by decide)
  | x :: y :: r, acc, m, n, _, hl, h => by
    by_cases hb : (readS x).2 = 0
    · rw [prs_ok x (y :: r) (by simp) hb] at h
      obtain ⟨l, h1, h2, h3, h4, h5, h6⟩ := fmt_prs (y :: r) (acc ++ [(readS x).1]) m n (by simp) (fun p hp => hl p (List.mem_cons_of_mem _ hp)) h
      obtain ⟨k, hk, hB, hE, hD, hT⟩ := read_text x (hl x List.mem_cons_self) (readS x).1 (Prod.ext rfl hb)
      have hln := hB.line hk
      refine ⟨(readS x).1 :: l, by rw [h1]; simp, h2, by simp at h3 ⊢; omega, ?_, ?_, ?_⟩
      · show (if (lineR (readS x).1).2 = 0 then fmtBad l else _) = 0
        rw [hln]
        exact h4
      · intro z hz
        rcases List.mem_cons.1 hz with rfl | hz
        · exact hE
        · exact h5 z hz
      · rw [fmtL_cons, hln, h6, join_cons 10 x _ (by simp)]
        simp only
        rw [hT, data_ba]
    · rw [prs_bad x (y :: r) (by simp) hb] at h
      simp only [Prod.mk.injEq] at h
      exact absurd h.2.2 (by decide)
theorem prs_err : ∀ (ps : List (List UInt8)) (acc : List S27), (prsL ps acc).2.2 ≠ 0 → (prsL ps acc).1 = []
  | [], acc, h => absurd rfl h
  | x :: r, acc, h => by
    by_cases hr : r = []
    · subst hr
      unfold prsL at h ⊢
      rw [if_pos rfl] at h ⊢
      by_cases hx : x = []
      · rw [if_pos hx] at h; exact absurd rfl h
      · rw [if_neg hx]
    · by_cases hb : (readS x).2 = 0
      · rw [prs_ok x r hr hb] at h ⊢
        exact prs_err r _ h
      · rw [prs_bad x r hr hb]
end Go.Proofs.YtbiogabekhegaaaGreatDoor.Hand
