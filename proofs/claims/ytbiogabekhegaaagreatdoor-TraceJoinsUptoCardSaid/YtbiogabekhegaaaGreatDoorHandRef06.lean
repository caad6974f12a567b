/- What whispererref06.Cut, Number and Decimal answer, in closed form (plain Lean). -/
import Derived.Test.YtbiogabekhegaaaGreatDoorPCutx1
import Derived.Test.YtbiogabekhegaaaGreatDoorPNumberx1
import Derived.Test.YtbiogabekhegaaaGreatDoorPDecimalx1
import Derived.Test.YtbiogabekhegaaaGreatDoorHandPlain
namespace Go.Proofs.YtbiogabekhegaaaGreatDoor.Hand
open Go.RowKit Go.Proofs.YtbiogabekhegaaaGreatDoorW.PrintWords Go.Proofs.YtbiogabekhegaaaGreatDoorW.PrintLast
set_option linter.unusedVariables false
set_option linter.unusedSimpArgs false

theorem w64 {x : Int} (h0 : -9223372036854775808 ≤ x) (h1 : x ≤ 9223372036854775807) : wrap64 x = x := by unfold wrap64; omega
theorem bt_drop (s : ByteArray) (i : Nat) (h : i < s.size) : ∃ c, s.data.toList.drop i = c :: s.data.toList.drop (i + 1) ∧ bt s (i : Int) = (c.toNat : Int) ∧ s.extract i (i + 1) = ⟨#[c]⟩ := by
  have hl : i < s.data.toList.length := by simpa using h
  refine ⟨s.data.toList[i], List.drop_eq_getElem_cons hl, ?_, ?_⟩
  · unfold bt
    rw [dif_pos (by simpa using h)]
    rfl
  · apply ba_ext
    rw [Lib.extract_data, List.drop_eq_getElem_cons hl]
    simp

/-! a text cut at a byte -/
def splitB (c : UInt8) : List UInt8 → List (List UInt8)
  | [] => [[]]
  | x :: r => if x = c then [] :: splitB c r else (x :: (splitB c r).headD []) :: (splitB c r).tail
def ba (l : List UInt8) : ByteArray := ⟨l.toArray⟩
theorem ba_data (s : ByteArray) : ba s.data.toList = s := rfl
theorem data_ba (l : List UInt8) : (ba l).data.toList = l := by simp [ba]
theorem split_ne (c : UInt8) (l : List UInt8) : splitB c l = (splitB c l).headD [] :: (splitB c l).tail := by
  cases l with
  | nil => rfl
  | cons x r => unfold splitB; split <;> rfl
theorem split_cons (c x : UInt8) (r : List UInt8) (h : x ≠ c) : splitB c (x :: r) = (x :: (splitB c r).headD []) :: (splitB c r).tail := by
  conv => lhs; unfold splitB
  rw [if_neg h]
theorem split_hit (c : UInt8) (r : List UInt8) : splitB c (c :: r) = [] :: splitB c r := by
  conv => lhs; unfold splitB
  rw [if_pos rfl]
theorem split_length (c : UInt8) (l : List UInt8) : (splitB c l).length ≤ l.length + 1 := by
  induction l with
  | nil => simp [splitB]
  | cons x r ih =>
    unfold splitB
    split
    · simp; omega
    · simp; omega
theorem split_none (c : UInt8) (l : List UInt8) (h : c ∉ l) : splitB c l = [l] := by
  induction l with
  | nil => rfl
  | cons x r ih =>
    unfold splitB
    rw [if_neg (fun e => h (by simp [e])), ih (fun e => h (by simp [e]))]
    rfl
theorem split_app (c : UInt8) (p r : List UInt8) (h : c ∉ p) : splitB c (p ++ c :: r) = p :: splitB c r := by
  induction p with
  | nil => simp [splitB]
  | cons x t ih =>
    show splitB c (x :: (t ++ c :: r)) = _
    rw [split_cons c x _ (fun e => h (by simp [e])), ih (fun e => h (by simp [e]))]
    rfl
/-- The parts with the byte between them are the text. -/
def joinB (c : UInt8) : List (List UInt8) → List UInt8
  | [] => []
  | [p] => p
  | p :: q :: r => p ++ c :: joinB c (q :: r)
theorem join_cons (c : UInt8) (p : List UInt8) (l : List (List UInt8)) (h : l ≠ []) : joinB c (p :: l) = p ++ c :: joinB c l := by
  cases l with
  | nil => exact absurd rfl h
  | cons q r => rfl
theorem join_split (c : UInt8) (l : List UInt8) : joinB c (splitB c l) = l := by
  induction l with
  | nil => rfl
  | cons x r ih =>
    unfold splitB
    by_cases e : x = c
    · rw [if_pos e, join_cons c _ _ (by rw [split_ne c r]; simp), ih, e]
      rfl
    · rw [if_neg e]
      rw [split_ne c r] at ih
      cases ht : (splitB c r).tail with
      | nil => rw [ht] at ih; simp only [joinB] at ih ⊢; rw [ih]
      | cons q t =>
        rw [ht] at ih
        rw [join_cons c _ _ (by simp)] at ih ⊢
        rw [List.cons_append, ih]
theorem split_free (c : UInt8) (l : List UInt8) : ∀ p ∈ splitB c l, c ∉ p := by
  induction l with
  | nil => intro p hp; simp [splitB] at hp; subst hp; simp
  | cons x r ih =>
    unfold splitB
    split
    · intro p hp
      rcases List.mem_cons.1 hp with rfl | hp
      · simp
      · exact ih p hp
    · rename_i e
      rw [split_ne c r] at ih
      intro p hp
      rcases List.mem_cons.1 hp with rfl | hp
      · intro hm
        rcases List.mem_cons.1 hm with h1 | h1
        · exact e h1.symm
        · exact ih _ (by simp) h1
      · exact ih p (by simp [hp])

theorem set_last {α : Type} (init : List α) (a v : α) : (init ++ [a]).set init.length v = init ++ [v] := by simp
open PCut in
theorem cut_loop (s : ByteArray) (c : UInt8) (hs : s.size ≤ 1000000) (d : Nat) : ∀ (i k : Nat) (init : List ByteArray) (last : ByteArray), i + d = s.size → init.length + d ≤ 1000000 → last.size + d ≤ 1000000 →
    whispererref06_Cut.l0 (k + 1 + d) s (c.toNat : Int) (init ++ [last]) (i : Int) = some (init ++ (last ++ ba ((splitB c (s.data.toList.drop i)).headD [])) :: (splitB c (s.data.toList.drop i)).tail.map ba) := by
  induction d with
  | zero =>
    intro i k init last h h1 h2
    show whispererref06_Cut.l0 (k + 1) _ _ _ _ = _
    simp only [whispererref06_Cut.l0]
    rw [if_neg (by omega), List.drop_eq_nil_of_le (by simp; omega)]
    have : last ++ ba [] = last := by apply ba_ext; rw [ba_app, data_ba]; simp
    simp [splitB, this]
  | succ d ih =>
    intro i k init last h h1 h2
    show whispererref06_Cut.l0 ((k + 1 + d) + 1) _ _ _ _ = _
    obtain ⟨x, hx1, hx2, hx3⟩ := bt_drop s i (by omega)
    simp only [whispererref06_Cut.l0]
    rw [if_pos (by omega), if_pos (by omega), hx2, w64 (x := (i : Int) + 1) (by omega) (by omega)]
    rw [hx1]
    by_cases e : x = c
    · subst e
      rw [if_pos rfl, if_pos (by simp; omega)]
      have := ih (i + 1) k (init ++ [last]) ⟨#[]⟩ (by omega) (by simp; omega) (by show 0 + d ≤ _; omega)
      rw [show ((i : Int) + 1) = ((i + 1 : Nat) : Int) by omega, this]
      have e2 : splitB x (x :: s.data.toList.drop (i + 1)) = [] :: splitB x (s.data.toList.drop (i + 1)) := by simp [splitB]
      rw [e2]
      have e3 : (⟨#[]⟩ : ByteArray) ++ ba ((splitB x (s.data.toList.drop (i + 1))).headD []) = ba ((splitB x (s.data.toList.drop (i + 1))).headD []) := by apply ba_ext; rw [ba_app]; rfl
      have e4 : last ++ ba [] = last := by apply ba_ext; rw [ba_app, data_ba]; simp
      rw [e3]
      simp only [List.headD_cons, List.tail_cons, e4]
      conv => rhs; rw [split_ne x (s.data.toList.drop (i + 1))]
      simp
    · have ne : ¬ ((x.toNat : Int) = (c.toNat : Int)) := fun h => e (UInt8.toNat_inj.1 (by omega))
      have hl : (((init ++ [last]).length : Int) - 1) = (init.length : Int) := by simp
      have hw : wrap64 (((init ++ [last]).length : Int) - 1) = (init.length : Int) := by rw [hl]; exact w64 (by omega) (by omega)
      have hr : rdOf ByteArray.empty (init ++ [last]) (init.length : Int) = last := by unfold rdOf; simp
      have h11 : (((i : Int) + 1) : Int).toNat = i + 1 := by omega
      rw [if_neg ne, hw, if_pos (by omega), if_pos (by simp; omega), if_pos (by omega), if_pos (by omega), hr, h11, Int.toNat_natCast, hx3, if_pos (by show last.size + 1 ≤ _; omega), Int.toNat_natCast, set_last]
      have := ih (i + 1) k init (last ++ ⟨#[x]⟩) (by omega) (by omega) (by rw [ByteArray.size_append]; show last.size + 1 + d ≤ _; omega)
      rw [show ((i : Int) + 1) = ((i + 1 : Nat) : Int) by omega, this]
      have e2 : splitB c (x :: s.data.toList.drop (i + 1)) = (x :: (splitB c (s.data.toList.drop (i + 1))).headD []) :: (splitB c (s.data.toList.drop (i + 1))).tail := by
        conv => lhs; unfold splitB
        rw [if_neg e]
      rw [e2]
      have e3 : (last ++ ⟨#[x]⟩) ++ ba ((splitB c (s.data.toList.drop (i + 1))).headD []) = last ++ ba (x :: (splitB c (s.data.toList.drop (i + 1))).headD []) := by
        apply ba_ext
        rw [ba_app, ba_app, ba_app, data_ba, data_ba]
        simp
      rw [e3]
      rfl
theorem refcut_eq (s : ByteArray) (c : UInt8) (k : Nat) (hs : s.size ≤ 1000000 - 1) : PCut.whispererref06_Cut.f (k + 1 + s.size) s (c.toNat : Int) = some ((splitB c s.data.toList).map ba) := by
  unfold PCut.whispererref06_Cut.f
  have := cut_loop s c (by omega) s.size 0 k [] ⟨#[]⟩ (by omega) (by simp; omega) (by show 0 + s.size ≤ _; omega)
  rw [List.drop_zero] at this
  refine Eq.trans this ?_
  conv => rhs; rw [split_ne c s.data.toList]
  have e3 : (⟨#[]⟩ : ByteArray) ++ ba ((splitB c s.data.toList).headD []) = ba ((splitB c s.data.toList).headD []) := by apply ba_ext; rw [ba_app]; rfl
  rw [e3]
  simp

/-! a number of digits -/
def isDigB (b : Nat) (l : List UInt8) : Bool := l.all fun c => decide (0 ≤ udg c) && decide (udg c < b)
theorem isDigB_iff (b : Nat) (l : List UInt8) : isDigB b l = true ↔ IsDig b l := by
  unfold isDigB IsDig
  simp
def numB (b most : Nat) (l : List UInt8) : Int := if l = [] ∨ most < l.length ∨ (l.head? = some 48 ∧ l ≠ [48]) then -1 else if isDigB b l = true then (valB b l : Int) else -1
theorem dig_bad (b : Nat) (x : UInt8) (r : List UInt8) (h : ¬ (0 ≤ udg x ∧ udg x < b)) : isDigB b (x :: r) = false := by
  unfold isDigB
  rw [List.all_cons]
  have : (decide (0 ≤ udg x) && decide (udg x < b)) = false := by
    rw [Bool.eq_false_iff]
    simpa using h
  rw [this, Bool.false_and]
theorem dig_good (b : Nat) (x : UInt8) (r : List UInt8) (dd : Nat) (hdd : udg x = dd) (hlt : dd < b) : isDigB b (x :: r) = isDigB b r := by
  unfold isDigB
  rw [List.all_cons, hdd]
  simp [hlt]
/-- What the loop answers of what is left. -/
def numR (b acc : Nat) (l : List UInt8) : Int := if isDigB b l = true then ((l.foldl (fun a c => a * b + (udg c).toNat) acc : Nat) : Int) else -1
theorem numR_bad (b acc : Nat) (x : UInt8) (r : List UInt8) (h : ¬ (0 ≤ udg x ∧ udg x < b)) : numR b acc (x :: r) = -1 := by
  unfold numR
  rw [dig_bad b x r h]
  rfl
theorem numR_good (b acc : Nat) (x : UInt8) (r : List UInt8) (dd : Nat) (hdd : udg x = dd) (hlt : dd < b) : numR b acc (x :: r) = numR b (acc * b + dd) r := by
  unfold numR
  rw [dig_good b x r dd hdd hlt, List.foldl_cons, hdd, Int.toNat_natCast]
theorem udg_hi {x : UInt8} (h : (x.toNat : Int) - 48 > 9) (h2 : ¬ ((x.toNat : Int) - 87 < 10)) : udg x = (x.toNat : Int) - 87 := by unfold udg; rw [if_pos (by omega), if_pos (by omega)]
theorem udg_mid {x : UInt8} (h : (x.toNat : Int) - 48 > 9) (h2 : (x.toNat : Int) - 87 < 10) : udg x < 0 := by unfold udg; rw [if_pos (by omega), if_neg (by omega)]; omega
theorem udg_lo {x : UInt8} (h : ¬ ((x.toNat : Int) - 48 > 9)) : udg x = (x.toNat : Int) - 48 := by unfold udg; rw [if_neg (by omega)]
theorem pow_room {acc b d dd : Nat} (hb : 2 ≤ b) (hdd : dd < b) (h : (acc + 1) * b ^ (d + 1) ≤ 4611686018427387904) : (acc * b + dd + 1) * b ^ d ≤ 4611686018427387904 ∧ acc * b + dd ≤ 4611686018427387904 ∧ acc * b ≤ 4611686018427387904 := by
  have h3 : (acc + 1) * b * b ^ d = (acc + 1) * b ^ (d + 1) := by rw [Nat.pow_succ, Nat.mul_assoc, Nat.mul_comm b]
  have h4 : acc * b + dd + 1 ≤ (acc + 1) * b := by rw [Nat.add_mul]; omega
  have h2 : (acc * b + dd + 1) * b ^ d ≤ ((acc + 1) * b) * b ^ d := Nat.mul_le_mul_right _ h4
  have h5 : (acc * b + dd + 1) * 1 ≤ (acc * b + dd + 1) * b ^ d := Nat.mul_le_mul_left _ (Nat.pow_pos (by omega))
  omega
open PNumber in
theorem num_step (s : ByteArray) (b : Nat) (hb : 2 ≤ b) (h16 : b ≤ 16) (hs : s.size ≤ 1000000) (i k acc : Nat) (x : UInt8) (r : List UInt8) (hi : i < s.size) (hx2 : bt s (i : Int) = (x.toNat : Int)) (hm : acc * b + b ≤ 9000000000000000000)
    (ih : ∀ dd : Nat, dd < b → udg x = dd → whispererref06_Number.l0 k s (b : Int) ((acc * b + dd : Nat) : Int) ((i + 1 : Nat) : Int) = some (numR b (acc * b + dd) r)) :
    whispererref06_Number.l0 (k + 1) s (b : Int) (acc : Int) (i : Int) = some (numR b acc (x :: r)) := by
  have hx : x.toNat < 256 := x.toNat_lt
  obtain ⟨m, hmm⟩ : ∃ m, acc * b = m := ⟨_, rfl⟩
  rw [hmm] at hm ih
  have hp (dd : Nat) (hdd : dd < b) : wrap64 ((m : Int) + (dd : Int)) = ((m + dd : Nat) : Int) := by rw [w64 (by omega) (by omega)]; omega
  have em0 : ((b : Int) * (acc : Int)) = (m : Int) := by
    rw [← hmm]; push_cast; exact Int.mul_comm _ _
  simp only [whispererref06_Number.l0]
  rw [if_pos (by omega), if_pos (by omega), hx2, em0, w64 (x := (x.toNat : Int)) (by omega) (by omega), w64 (x := (x.toNat : Int) - 48) (by omega) (by omega), w64 (x := (x.toNat : Int) - 87) (by omega) (by omega), w64 (x := (m : Int)) (by omega) (by omega), w64 (x := (i : Int) + 1) (by omega) (by omega), show ((i : Int) + 1) = ((i + 1 : Nat) : Int) by omega]
  clear em0
  by_cases c1 : (x.toNat : Int) - 48 > 9
  · rw [if_pos c1]
    by_cases c2 : (x.toNat : Int) - 87 < 10
    · have hu := udg_mid c1 c2
      rw [if_pos c2, numR_bad b acc x r (by omega)]
    · have hu := udg_hi c1 c2
      rw [if_neg c2, if_neg (by omega)]
      by_cases c3 : (x.toNat : Int) - 87 ≥ b
      · rw [if_pos c3, numR_bad b acc x r (by omega)]
      · obtain ⟨dd, hdd⟩ : ∃ dd : Nat, (x.toNat : Int) - 87 = dd := ⟨x.toNat - 87, by omega⟩
        rw [if_neg c3, hdd, hp dd (by omega), ih dd (by omega) (by omega), numR_good b acc x r dd (by omega) (by omega), hmm]
  · have hu := udg_lo c1
    rw [if_neg c1]
    by_cases c2 : (x.toNat : Int) - 48 < 0
    · rw [if_pos c2, numR_bad b acc x r (by omega)]
    · rw [if_neg c2]
      by_cases c3 : (x.toNat : Int) - 48 ≥ b
      · rw [if_pos c3, numR_bad b acc x r (by omega)]
      · obtain ⟨dd, hdd⟩ : ∃ dd : Nat, (x.toNat : Int) - 48 = dd := ⟨x.toNat - 48, by omega⟩
        rw [if_neg c3, hdd, hp dd (by omega), ih dd (by omega) (by omega), numR_good b acc x r dd (by omega) (by omega), hmm]
open PNumber in
theorem num_loop (s : ByteArray) (b : Nat) (hb : 2 ≤ b) (h16 : b ≤ 16) (hs : s.size ≤ 1000000) (d : Nat) : ∀ (i k acc : Nat), i + d = s.size → (acc + 1) * b ^ d ≤ 4611686018427387904 →
    whispererref06_Number.l0 (k + 1 + d) s (b : Int) (acc : Int) (i : Int) = some (numR b acc (s.data.toList.drop i)) := by
  induction d with
  | zero =>
    intro i k acc h h1
    show whispererref06_Number.l0 (k + 1) _ _ _ _ = _
    simp only [whispererref06_Number.l0]
    rw [if_neg (by omega), List.drop_eq_nil_of_le (by simp; omega)]
    rfl
  | succ d ih =>
    intro i k acc h h1
    obtain ⟨x, hx1, hx2, hx3⟩ := bt_drop s i (by omega)
    rw [hx1]
    have hr := pow_room hb (show 0 < b by omega) h1
    exact num_step s b hb h16 hs i (k + 1 + d) acc x _ (by omega) hx2 (by have := hr.2.2; omega) (fun dd hdd _ => ih (i + 1) k _ (by omega) (pow_room hb hdd h1).1)
theorem num_eq (s : ByteArray) (b most k : Nat) (hb : 2 ≤ b) (h16 : b ≤ 16) (hm : most ≤ 1000000) (hp : b ^ most ≤ 4611686018427387904) (hk : most ≤ k) :
    PNumber.whispererref06_Number.f (k + 3) s (b : Int) (most : Int) = some (numB b most s.data.toList) := by
  have jt (a : ByteArray) (x y : Int) : PNumber.whispererref06_Number.j0 (k + 3) a x y true = some (-1) := by simp [PNumber.whispererref06_Number.j0]
  have jf (a : ByteArray) (x y : Int) : PNumber.whispererref06_Number.j0 (k + 3) a x y false = PNumber.whispererref06_Number.l0 (k + 2) a x y 0 := by simp [PNumber.whispererref06_Number.j0]
  have hlen : s.data.toList.length = s.size := by simp
  unfold PNumber.whispererref06_Number.f numB
  rw [ByteArray.toList_eq]
  by_cases h0 : s.data.toList = []
  · rw [if_pos h0, jt, if_pos (.inl h0)]
  · rw [if_neg h0]
    by_cases h1 : (s.size : Int) > (most : Int)
    · rw [if_pos h1, jt, if_pos (.inr (.inl (by omega)))]
    · rw [if_neg h1]
      have hpos : 0 < s.size := by
        rcases Nat.eq_zero_or_pos s.size with h | h
        · exact absurd (List.eq_nil_of_length_eq_zero (by omega)) h0
        · exact h
      rw [if_pos (by omega)]
      obtain ⟨x, hx1, hx2, hx3⟩ := bt_drop s 0 hpos
      rw [List.drop_zero] at hx1
      have hhead : s.data.toList.head? = some x := by rw [hx1]; rfl
      have loop : PNumber.whispererref06_Number.l0 (k + 2) s (b : Int) 0 0 = some (if isDigB b s.data.toList = true then (valB b s.data.toList : Int) else -1) := by
        show _ = some (numR b 0 s.data.toList)
        have hps : (0 + 1) * b ^ s.size ≤ 4611686018427387904 := by
          have : b ^ s.size ≤ b ^ most := Nat.pow_le_pow_right (by omega) (by omega)
          omega
        have := num_loop s b hb h16 (by omega) s.size 0 (k + 1 - s.size) 0 (by omega) hps
        rw [show k + 1 - s.size + 1 + s.size = k + 2 by omega, List.drop_zero] at this
        exact this
      rw [show ((0 : Nat) : Int) = (0 : Int) from rfl] at hx2
      rw [hx2]
      by_cases h2 : (x.toNat : Int) = 48
      · rw [if_pos h2]
        have e48 : x = 48 := UInt8.toNat_inj.1 (by simp; omega)
        by_cases h3 : s.data.toList = [48]
        · have : (s.data.toList != ([48] : List UInt8)) = false := by simpa using h3
          have hN : ¬ (s.data.toList = [] ∨ most < s.data.toList.length ∨ (s.data.toList.head? = some 48 ∧ s.data.toList ≠ [48])) := by
            rintro (h | h | h)
            · exact h0 h
            · omega
            · exact h.2 h3
          rw [this, jf, loop, if_neg hN]
        · have : (s.data.toList != ([48] : List UInt8)) = true := by simpa using h3
          rw [this, jt, if_pos (.inr (.inr ⟨by rw [hhead, e48], h3⟩))]
      · have hN : ¬ (s.data.toList = [] ∨ most < s.data.toList.length ∨ (s.data.toList.head? = some 48 ∧ s.data.toList ≠ [48])) := by
          rintro (h | h | h)
          · exact h0 h
          · omega
          · rw [hhead] at h
            have := Option.some.inj h.1
            subst this
            exact h2 rfl
        rw [if_neg h2, jf, loop, if_neg hN]
/-- What is read is the numeral of it. -/
theorem numB_sound {b most : Nat} {l : List UInt8} (hb : 2 ≤ b) (h16 : b ≤ 16) (h : 0 ≤ numB b most l) : digs b (numB b most l).toNat = l ∧ l.length ≤ most ∧ (numB b most l).toNat = valB b l := by
  unfold numB at h ⊢
  by_cases h1 : l = [] ∨ most < l.length ∨ (l.head? = some 48 ∧ l ≠ [48])
  · rw [if_pos h1] at h; omega
  · rw [if_neg h1] at h ⊢
    by_cases h2 : isDigB b l = true
    · rw [if_pos h2, Int.toNat_natCast]
      refine ⟨digs_valB b hb h16 l ((isDigB_iff b l).1 h2) ⟨fun e => h1 (.inl e), fun e => ?_⟩, ?_, rfl⟩
      · by_cases e2 : l = [48]
        · exact e2
        · exact absurd (.inr (.inr ⟨e, e2⟩)) h1
      · by_cases e : most < l.length
        · exact absurd (.inr (.inl e)) h1
        · omega
    · rw [if_neg h2] at h; omega
theorem numB_digs {b most u : Nat} (hb : 2 ≤ b) (h16 : b ≤ 16) (h : (digs b u).length ≤ most) : numB b most (digs b u) = u := by
  unfold numB
  rw [if_neg, if_pos ((isDigB_iff b _).2 (digs_dig b u hb h16)), valB_digs b u hb h16]
  rintro (e | e | e)
  · exact digs_ne b u e
  · omega
  · exact e.2 ((digs_canon b u hb h16).2 e.1)

/-! a number's digits -/
theorem digit_extract : ∀ d : Nat, d < 16 → (⟨#[48, 49, 50, 51, 52, 53, 54, 55, 56, 57, 97, 98, 99, 100, 101, 102]⟩ : ByteArray).extract d (d + 1) = ⟨#[dgt d]⟩ := by decide +kernel
open PDecimal in
theorem dec_step (b : Nat) (hb : 2 ≤ b) (h16 : b ≤ 16) (k u : Nat) (acc : ByteArray) (hu : u < 9223372036854775808) (hacc : acc.size ≤ 1000) (hgo : 0 < u ∨ acc.data.toList = []) :
    whispererref06_Decimal.l0 (k + 1) (u : Int) (b : Int) acc = whispererref06_Decimal.l0 k ((u / b : Nat) : Int) (b : Int) (ba (dgt (u % b) :: acc.data.toList)) := by
  have hm : u % b < b := Nat.mod_lt _ (by omega)
  have e1 : Int.tmod (u : Int) (b : Int) = ((u % b : Nat) : Int) := by rw [Int.tmod_eq_emod_of_nonneg (by omega)]; push_cast; rfl
  have e2 : Int.tdiv (u : Int) (b : Int) = ((u / b : Nat) : Int) := by rw [Int.tdiv_eq_ediv_of_nonneg (by omega)]; push_cast; rfl
  have hd : u / b ≤ u := Nat.div_le_self _ _
  generalize u % b = r at *
  generalize u / b = q at *
  have e3 : wrap64 ((r : Int) + 1) = ((r + 1 : Nat) : Int) := by rw [w64 (by omega) (by omega)]; omega
  have e4 : wrap64 (q : Int) = (q : Int) := w64 (by omega) (by omega)
  have e5 : (⟨#[dgt r]⟩ : ByteArray) ++ acc = ba (dgt r :: acc.data.toList) := by apply ba_ext; rw [ba_app, data_ba]; rfl
  have step : (if (b : Int) = 0 then (none : Option ByteArray) else (if 0 ≤ (Int.tmod (u : Int) (b : Int)) then (if (Int.tmod (u : Int) (b : Int)) ≤ (wrap64 ((Int.tmod (u : Int) (b : Int)) + 1)) then (if (wrap64 ((Int.tmod (u : Int) (b : Int)) + 1)) ≤ 16 then (if ((⟨#[48, 49, 50, 51, 52, 53, 54, 55, 56, 57, 97, 98, 99, 100, 101, 102]⟩ : ByteArray).extract ((Int.tmod (u : Int) (b : Int)) : Int).toNat ((wrap64 ((Int.tmod (u : Int) (b : Int)) + 1)) : Int).toNat).size + acc.size ≤ 9223372036854775807 then (whispererref06_Decimal.l0 k (wrap64 (Int.tdiv (u : Int) (b : Int))) (b : Int) (((⟨#[48, 49, 50, 51, 52, 53, 54, 55, 56, 57, 97, 98, 99, 100, 101, 102]⟩ : ByteArray).extract ((Int.tmod (u : Int) (b : Int)) : Int).toNat ((wrap64 ((Int.tmod (u : Int) (b : Int)) + 1)) : Int).toNat) ++ acc)) else (none)) else (none)) else (none)) else (none))) = whispererref06_Decimal.l0 k (q : Int) (b : Int) (ba (dgt r :: acc.data.toList)) := by
    rw [e1, e2, e3, e4, Int.toNat_natCast, Int.toNat_natCast, digit_extract r (by omega), e5, if_neg (by omega), if_pos (by omega), if_pos (by omega), if_pos (by omega), if_pos (by show 1 + acc.size ≤ _; omega)]
  simp only [whispererref06_Decimal.l0]
  by_cases h0 : (u : Int) > 0
  · rw [if_pos h0]
    exact step
  · have ha : acc.data.toList = [] := by
      rcases hgo with h | h
      · exact absurd (by omega) h0
      · exact h
    rw [if_neg h0, ByteArray.toList_eq, if_pos ha]
    exact step
open PDecimal in
theorem dec_end (b k : Nat) (acc : ByteArray) (h : acc.data.toList ≠ []) : whispererref06_Decimal.l0 (k + 1) 0 (b : Int) acc = some acc := by
  simp only [whispererref06_Decimal.l0]
  rw [if_neg (by decide), ByteArray.toList_eq, if_neg h]
open PDecimal in
theorem dec_run (b : Nat) (hb : 2 ≤ b) (h16 : b ≤ 16) : ∀ (u k : Nat) (acc : List UInt8), u < 9223372036854775808 → (digs b u).length ≤ k → acc.length + k ≤ 1000 → (0 < u ∨ acc = []) →
    whispererref06_Decimal.l0 (k + 1) (u : Int) (b : Int) (ba acc) = some (ba (digs b u ++ acc)) := by
  intro u
  induction u using Nat.strongRecOn with
  | _ u ih =>
    intro k acc hu hk hacc hgo
    rw [digs] at hk ⊢
    by_cases h : u < b
    · rw [dif_pos (.inl h)] at hk ⊢
      obtain ⟨k, rfl⟩ : ∃ m, k = m + 1 := ⟨k - 1, by simp at hk; omega⟩
      rw [dec_step b hb h16 _ u (ba acc) hu (by show acc.toArray.size ≤ _; simp; omega) (by rw [data_ba]; exact hgo), data_ba, Nat.div_eq_of_lt h, Nat.mod_eq_of_lt h]
      exact dec_end b k _ (by rw [data_ba]; simp)
    · rw [dif_neg (by omega)] at hk ⊢
      rw [List.length_append, List.length_singleton] at hk
      obtain ⟨k, rfl⟩ : ∃ m, k = m + 1 := ⟨k - 1, by omega⟩
      rw [dec_step b hb h16 _ u (ba acc) hu (by show acc.toArray.size ≤ _; simp; omega) (by rw [data_ba]; exact hgo), data_ba]
      have hpos : 0 < u / b := Nat.div_pos (by omega) (by omega)
      have := ih (u / b) (Nat.div_lt_self (by omega) (by omega)) k (dgt (u % b) :: acc) (by have := Nat.div_le_self u b; omega) (by omega) (by simp; omega) (.inl hpos)
      rw [this]
      simp
theorem dec_eq (b u k : Nat) (hb : 2 ≤ b) (h16 : b ≤ 16) (hu : u < 9223372036854775808) (hk : (digs b u).length ≤ k) (hk2 : k ≤ 1000) : PDecimal.whispererref06_Decimal.f (k + 1) (u : Int) (b : Int) = some (ba (digs b u)) := by
  unfold PDecimal.whispererref06_Decimal.f
  have := dec_run b hb h16 u k [] hu hk (by simp; omega) (.inr rfl)
  rw [List.append_nil] at this
  exact this

end Go.Proofs.YtbiogabekhegaaaGreatDoor.Hand
