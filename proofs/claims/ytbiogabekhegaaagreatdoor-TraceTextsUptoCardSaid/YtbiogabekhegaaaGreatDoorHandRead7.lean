/- What whispererref06.Cut, Number and Decimal answer, in closed form (plain Lean). -/
import Derived.Test.YtbiogabekhegaaaGreatDoorPCutx1
import Derived.Test.YtbiogabekhegaaaGreatDoorPNumberx1
import Derived.Test.YtbiogabekhegaaaGreatDoorPDecimalx1
import Derived.Test.YtbiogabekhegaaaGreatDoorHandPlain
import Derived.Test.YtbiogabekhegaaaGreatDoorHandBase7
namespace Go.Proofs.YtbiogabekhegaaaGreatDoor.Hand
open Go.RowKit Go.Proofs.YtbiogabekhegaaaGreatDoorW.PrintWords Go.Proofs.YtbiogabekhegaaaGreatDoorW.PrintLast
set_option linter.unusedVariables false
set_option linter.unusedSimpArgs false

theorem w64 {x : Int} (h0 : -9223372036854775808 ≤ x) (h1 : x ≤ 9223372036854775807) : wrap64 x = x := by unfold wrap64; omega
theorem bt_drop (s : ByteArray) (i : Nat) (h : i < s.size) : ∃ c, s.data.toList.drop i = c :: s.data.toList.drop (i + 1) ∧ bt s (i : Int) = (c.toNat : Int) ∧ s.extract i (i + 1) = ⟨#[c]⟩ := by
  have hl : i < s.data.toList.length := by simpa using h
  refine ⟨s.data.toList[i], List.drop_eq_getElem_cons hl, ?_, ?_⟩
  · unfold bt
    rw [dif_pos (by simpa using h)]
    rfl
  · apply ba_ext
    rw [Lib.extract_data, List.drop_eq_getElem_cons hl]
    simp

/-! a text cut at a byte -/
def splitB (c : UInt8) : List UInt8 → List (List UInt8)
  | [] => [[]]
  | x :: r => if x = c then [] :: splitB c r else (x :: (splitB c r).headD []) :: (splitB c r).tail
def ba (l : List UInt8) : ByteArray := ⟨l.toArray⟩
theorem ba_data (s : ByteArray) : ba s.data.toList = s := rfl
theorem data_ba (l : List UInt8) : (ba l).data.toList = l := by simp [ba]
theorem split_ne (c : UInt8) (l : List UInt8) : splitB c l = (splitB c l).headD [] :: (splitB c l).tail := by
  cases l with
  | nil => rfl
  | cons x r => unfold splitB; split <;> rfl
theorem split_cons (c x : UInt8) (r : List UInt8) (h : x ≠ c) : splitB c (x :: r) = (x :: (splitB c r).headD []) :: (splitB c r).tail := by
  conv => lhs; unfold splitB
  rw [if_neg h]
theorem split_hit (c : UInt8) (r : List UInt8) : splitB c (c :: r) = [] :: splitB c r := by
  conv => lhs; unfold splitB
  rw [if_pos rfl]
theorem split_length (c : UInt8) (l : List UInt8) : (splitB c l).length ≤ l.length + 1 := by
  induction l with
  | nil => simp [splitB]
  | cons x r ih =>
    unfold splitB
    split
    · simp; omega
    · simp; omega
theorem split_none (c : UInt8) (l : List UInt8) (h : c ∉ l) : splitB c l = [l] := by
  induction l with
  | nil => rfl
  | cons x r ih =>
    unfold splitB
    rw [if_neg (fun e => h (by simp [e])), ih (fun e => h (by simp [e]))]
    rfl
theorem split_app (c : UInt8) (p r : List UInt8) (h : c ∉ p) : splitB c (p ++ c :: r) = p :: splitB c r := by
  induction p with
  | nil => simp [splitB]
  | cons x t ih =>
    show splitB c (x :: (t ++ c :: r)) = _
    rw [split_cons c x _ (fun e => h (by simp [e])), ih (fun e => h (by simp [e]))]
    rfl
/-- The parts with the byte between them are the text. -/
def joinB (c : UInt8) : List (List UInt8) → List UInt8
  | [] => []
  | [p] => p
  | p :: q :: r => p ++ c :: joinB c (q :: r)
theorem join_cons (c : UInt8) (p : List UInt8) (l : List (List UInt8)) (h : l ≠ []) : joinB c (p :: l) = p ++ c :: joinB c l := by
  cases l with
  | nil => exact absurd rfl h
  | cons q r => rfl
theorem join_split (c : UInt8) (l : List UInt8) : joinB c (splitB c l) = l := by
  induction l with
  | nil => rfl
  | cons x r ih =>
    unfold splitB
    by_cases e : x = c
    · rw [if_pos e, join_cons c _ _ (by rw [split_ne c r]; simp), ih, e]
      rfl
    · rw [if_neg e]
      rw [split_ne c r] at ih
      cases ht : (splitB c r).tail with
      | nil => rw [ht] at ih; simp only [joinB] at ih ⊢; rw [ih]
      | cons q t =>
        rw [ht] at ih
        rw [join_cons c _ _ (by simp)] at ih ⊢
        rw [List.cons_append, ih]
theorem split_free (c : UInt8) (l : List UInt8) : ∀ p ∈ splitB c l, c ∉ p := by
  induction l with
  | nil => intro p hp; simp [splitB] at hp; subst hp; simp
  | cons x r ih =>
    unfold splitB
    split
    · intro p hp
      rcases List.mem_cons.1 hp with rfl | hp
      · simp
      · exact ih p hp
    · rename_i e
      rw [split_ne c r] at ih
      intro p hp
      rcases List.mem_cons.1 hp with rfl | hp
      · intro hm
        rcases List.mem_cons.1 hm with h1 | h1
        · exact e h1.symm
        · exact ih _ (by simp) h1
      · exact ih p (by simp [hp])

theorem set_last {α : Type} (init : List α) (a v : α) : (init ++ [a]).set init.length v = init ++ [v] := by simp
open PCut in
theorem cut_loop (s : ByteArray) (c : UInt8) (hs : s.size ≤ 1000000) (d : Nat) : ∀ (i k : Nat) (init : List ByteArray) (last : ByteArray), i + d = s.size → init.length + d ≤ 1000000 → last.size + d ≤ 1000000 →
    whispererref06_Cut.l0 (k + 1 + d) s (c.toNat : Int) (init ++ [last]) (i : Int) = some (init ++ (last ++ ba ((splitB c (s.data.toList.drop i)).headD [])) :: (splitB c (s.data.toList.drop i)).tail.map ba) := by
  induction d with
  | zero =>
    intro i k init last h h1 h2
    show whispererref06_Cut.l0 (k + 1) _ _ _ _ = _
    simp only [whispererref06_Cut.l0]
    rw [if_neg (by omega), List.drop_eq_nil_of_le (by simp; omega)]
    have : last ++ ba [] = last := by apply ba_ext; rw [ba_app, data_ba]; simp
    simp [splitB, this]
  | succ d ih =>
    intro i k init last h h1 h2
    show whispererref06_Cut.l0 ((k + 1 + d) + 1) _ _ _ _ = _
    obtain ⟨x, hx1, hx2, hx3⟩ := bt_drop s i (by omega)
    simp only [whispererref06_Cut.l0]
    rw [if_pos (by omega), if_pos (by omega), hx2, w64 (x := (i : Int) + 1) (by omega) (by omega)]
    rw [hx1]
    by_cases e : x = c
    · subst e
      rw [if_pos rfl, if_pos (by simp; omega)]
      have := ih (i + 1) k (init ++ [last]) ⟨#[]⟩ (by omega) (by simp; omega) (by show 0 + d ≤ _; omega)
      rw [show ((i : Int) + 1) = ((i + 1 : Nat) : Int) by omega, this]
      have e2 : splitB x (x :: s.data.toList.drop (i + 1)) = [] :: splitB x (s.data.toList.drop (i + 1)) := by simp [splitB]
      rw [e2]
      have e3 : (⟨#[]⟩ : ByteArray) ++ ba ((splitB x (s.data.toList.drop (i + 1))).headD []) = ba ((splitB x (s.data.toList.drop (i + 1))).headD []) := by apply ba_ext; rw [ba_app]; rfl
      have e4 : last ++ ba [] = last := by apply ba_ext; rw [ba_app, data_ba]; simp
      rw [e3]
      simp only [List.headD_cons, List.tail_cons, e4]
      conv => rhs; rw [split_ne x (s.data.toList.drop (i + 1))]
      simp
    · have ne : ¬ ((x.toNat : Int) = (c.toNat : Int)) := fun h => e (UInt8.toNat_inj.1 (by omega))
      have hl : (((init ++ [last]).length : Int) - 1) = (init.length : Int) := by simp
      have hw : wrap64 (((init ++ [last]).length : Int) - 1) = (init.length : Int) := by rw [hl]; exact w64 (by omega) (by omega)
      have hr : rdOf ByteArray.empty (init ++ [last]) (init.length : Int) = last := by unfold rdOf; simp
      have h11 : (((i : Int) + 1) : Int).toNat = i + 1 := by omega
      rw [if_neg ne, hw, if_pos (by omega), if_pos (by simp; omega), if_pos (by omega), if_pos (by omega), hr, h11, Int.toNat_natCast, hx3, if_pos (by show last.size + 1 ≤ _; omega), Int.toNat_natCast, set_last]
      have := ih (i + 1) k init (last ++ ⟨#[x]⟩) (by omega) (by omega) (by rw [ByteArray.size_append]; show last.size + 1 + d ≤ _; omega)
      rw [show ((i : Int) + 1) = ((i + 1 : Nat) : Int) by omega, this]
      have e2 : splitB c (x :: s.data.toList.drop (i + 1)) = (x :: (splitB c (s.data.toList.drop (i + 1))).headD []) :: (splitB c (s.data.toList.drop (i + 1))).tail := by
        conv => lhs; unfold splitB
        rw [if_neg e]
      rw [e2]
      have e3 : (last ++ ⟨#[x]⟩) ++ ba ((splitB c (s.data.toList.drop (i + 1))).headD []) = last ++ ba (x :: (splitB c (s.data.toList.drop (i + 1))).headD []) := by
        apply ba_ext
        rw [ba_app, ba_app, ba_app, data_ba, data_ba]
        simp
      rw [e3]
      rfl
theorem refcut_eq (s : ByteArray) (c : UInt8) (k : Nat) (hs : s.size ≤ 1000000 - 1) : PCut.whispererref06_Cut.f (k + 1 + s.size) s (c.toNat : Int) = some ((splitB c s.data.toList).map ba) := by
  unfold PCut.whispererref06_Cut.f
  have := cut_loop s c (by omega) s.size 0 k [] ⟨#[]⟩ (by omega) (by simp; omega) (by show 0 + s.size ≤ _; omega)
  rw [List.drop_zero] at this
  refine Eq.trans this ?_
  conv => rhs; rw [split_ne c s.data.toList]
  have e3 : (⟨#[]⟩ : ByteArray) ++ ba ((splitB c s.data.toList).headD []) = ba ((splitB c s.data.toList).headD []) := by apply ba_ext; rw [ba_app]; rfl
  rw [e3]
  simp

/-! a number of digits -/
def isDigB (b : Nat) (l : List UInt8) : Bool := l.all fun c => decide (0 ≤ udg c) && decide (udg c < b)
theorem isDigB_iff (b : Nat) (l : List UInt8) : isDigB b l = true ↔ IsDig b l := by
  unfold isDigB IsDig
  simp
def numB (b most : Nat) (l : List UInt8) : Int := if l = [] ∨ most < l.length ∨ (l.head? = some 48 ∧ l ≠ [48]) then -1 else if isDigB b l = true then (valB b l : Int) else -1
theorem dig_bad (b : Nat) (x : UInt8) (r : List UInt8) (h : ¬ (0 ≤ udg x ∧ udg x < b)) : isDigB b (x :: r) = false := by
  unfold isDigB
  rw [List.all_cons]
  have : (decide (0 ≤ udg x) && decide (udg x < b)) = false := by
    rw [Bool.eq_false_iff]
    simpa using h
  rw [this, Bool.false_and]
theorem dig_good (b : Nat) (x : UInt8) (r : List UInt8) (dd : Nat) (hdd : udg x = dd) (hlt : dd < b) : isDigB b (x :: r) = isDigB b r := by
  unfold isDigB
  rw [List.all_cons, hdd]
  simp [hlt]
/-- What the loop answers of what is left. -/
def numR (b acc : Nat) (l : List UInt8) : Int := if isDigB b l = true then ((l.foldl (fun a c => a * b + (udg c).toNat) acc : Nat) : Int) else -1
theorem numR_bad (b acc : Nat) (x : UInt8) (r : List UInt8) (h : ¬ (0 ≤ udg x ∧ udg x < b)) : numR b acc (x :: r) = -1 := by
  unfold numR
  rw [dig_bad b x r h]
  rfl
theorem numR_good (b acc : Nat) (x : UInt8) (r : List UInt8) (dd : Nat) (hdd : udg x = dd) (hlt : dd < b) : numR b acc (x :: r) = numR b (acc * b + dd) r := by
  unfold numR
  rw [dig_good b x r dd hdd hlt, List.foldl_cons, hdd, Int.toNat_natCast]
theorem udg_hi {x : UInt8} (h : (x.toNat : Int) - 48 > 9) (h2 : ¬ ((x.toNat : Int) - 87 < 10)) : udg x = (x.toNat : Int) - 87 := by unfold udg; rw [if_pos (by omega), if_pos (by omega)]
theorem udg_mid {x : UInt8} (h : (x.toNat : Int) - 48 > 9) (h2 : (x.toNat : Int) - 87 < 10) : udg x < 0 := by unfold udg; rw [if_pos (by omega), if_neg (by omega)]; omega
theorem udg_lo {x : UInt8} (h : ¬ ((x.toNat : Int) - 48 > 9)) : udg x = (x.toNat : Int) - 48 := by unfold udg; rw [if_neg (by omega)]
theorem pow_room {acc b d dd : Nat} (hb : 2 ≤ b) (hdd : dd < b) (h : (acc + 1) * b ^ (d + 1) ≤ 4611686018427387904) : (acc * b + dd + 1) * b ^ d ≤ 4611686018427387904 ∧ acc * b + dd ≤ 4611686018427387904 ∧ acc * b ≤ 4611686018427387904 := by
  have h3 : (acc + 1) * b * b ^ d = (acc + 1) * b ^ (d + 1) := by rw [Nat.pow_succ, Nat.mul_assoc, Nat.mul_comm b]
  have h4 : acc * b + dd + 1 ≤ (acc + 1) * b := by rw [Nat.add_mul]; omega
  have h2 : (acc * b + dd + 1) * b ^ d ≤ ((acc + 1) * b) * b ^ d := Nat.mul_le_mul_right _ h4
  have h5 : (acc * b + dd + 1) * 1 ≤ (acc * b + dd + 1) * b ^ d := Nat.mul_le_mul_left _ (Nat.pow_pos (by omega))
  omega
open PNumber in
theorem num_step (s : ByteArray) (b : Nat) (hb : 2 ≤ b) (h16 : b ≤ 16) (hs : s.size ≤ 1000000) (i k acc : Nat) (x : UInt8) (r : List UInt8) (hi : i < s.size) (hx2 : bt s (i : Int) = (x.toNat : Int)) (hm : acc * b + b ≤ 9000000000000000000)
    (ih : ∀ dd : Nat, dd < b → udg x = dd → whispererref06_Number.l0 k s (b : Int) ((acc * b + dd : Nat) : Int) ((i + 1 : Nat) : Int) = some (numR b (acc * b + dd) r)) :
    whispererref06_Number.l0 (k + 1) s (b : Int) (acc : Int) (i : Int) = some (numR b acc (x :: r)) := by
  have hx : x.toNat < 256 := x.toNat_lt
  obtain ⟨m, hmm⟩ : ∃ m, acc * b = m := ⟨_, rfl⟩
  rw [hmm] at hm ih
  have hp (dd : Nat) (hdd : dd < b) : wrap64 ((m : Int) + (dd : Int)) = ((m + dd : Nat) : Int) := by rw [w64 (by omega) (by omega)]; omega
  have em0 : ((b : Int) * (acc : Int)) = (m : Int) := by
    rw [← hmm]; push_cast; exact Int.mul_comm _ _
  simp only [whispererref06_Number.l0]
  rw [if_pos (by omega), if_pos (by omega), hx2, em0, w64 (x := (x.toNat : Int)) (by omega) (by omega), w64 (x := (x.toNat : Int) - 48) (by omega) (by omega), w64 (x := (x.toNat : Int) - 87) (by omega) (by omega), w64 (x := (m : Int)) (by omega) (by omega), w64 (x := (i : Int) + 1) (by omega) (by omega), show ((i : Int) + 1) = ((i + 1 : Nat) : Int) by omega]
  clear em0
  by_cases c1 : (x.toNat : Int) - 48 > 9
  · rw [if_pos c1]
    by_cases c2 : (x.toNat : Int) - 87 < 10
    · have hu := udg_mid c1 c2
      rw [if_pos c2, numR_bad b acc x r (by omega)]
    · have hu := udg_hi c1 c2
      rw [if_neg c2, if_neg (by omega)]
      by_cases c3 : (x.toNat : Int) - 87 ≥ b
      · rw [if_pos c3, numR_bad b acc x r (by omega)]
      · obtain ⟨dd, hdd⟩ : ∃ dd : Nat, (x.toNat : Int) - 87 = dd := ⟨x.toNat - 87, by omega⟩
        rw [if_neg c3, hdd, hp dd (by omega), ih dd (by omega) (by omega), numR_good b acc x r dd (by omega) (by omega), hmm]
  · have hu := udg_lo c1
    rw [if_neg c1]
    by_cases c2 : (x.toNat : Int) - 48 < 0
    · rw [if_pos c2, numR_bad b acc x r (by omega)]
    · rw [if_neg c2]
      by_cases c3 : (x.toNat : Int) - 48 ≥ b
      · rw [if_pos c3, numR_bad b acc x r (by omega)]
      · obtain ⟨dd, hdd⟩ : ∃ dd : Nat, (x.toNat : Int) - 48 = dd := ⟨x.toNat - 48, by omega⟩
        rw [if_neg c3, hdd, hp dd (by omega), ih dd (by omega) (by omega), numR_good b acc x r dd (by omega) (by omega), hmm]
open PNumber in
theorem num_loop (s : ByteArray) (b : Nat) (hb : 2 ≤ b) (h16 : b ≤ 16) (hs : s.size ≤ 1000000) (d : Nat) : ∀ (i k acc : Nat), i + d = s.size → (acc + 1) * b ^ d ≤ 4611686018427387904 →
    whispererref06_Number.l0 (k + 1 + d) s (b : Int) (acc : Int) (i : Int) = some (numR b acc (s.data.toList.drop i)) := by
  induction d with
  | zero =>
    intro i k acc h h1
    show whispererref06_Number.l0 (k + 1) _ _ _ _ = _
    simp only [whispererref06_Number.l0]
    rw [if_neg (by omega), List.drop_eq_nil_of_le (by simp; omega)]
    rfl
  | succ d ih =>
    intro i k acc h h1
    obtain ⟨x, hx1, hx2, hx3⟩ := bt_drop s i (by omega)
    rw [hx1]
    have hr := pow_room hb (show 0 < b by omega) h1
    exact num_step s b hb h16 hs i (k + 1 + d) acc x _ (by omega) hx2 (by have := hr.2.2; omega) (fun dd hdd _ => ih (i + 1) k _ (by omega) (pow_room hb hdd h1).1)
theorem num_eq (s : ByteArray) (b most k : Nat) (hb : 2 ≤ b) (h16 : b ≤ 16) (hm : most ≤ 1000000) (hp : b ^ most ≤ 4611686018427387904) (hk : most ≤ k) :
    PNumber.whispererref06_Number.f (k + 3) s (b : Int) (most : Int) = some (numB b most s.data.toList) := by
  have jt (a : ByteArray) (x y : Int) : PNumber.whispererref06_Number.j0 (k + 3) a x y true = some (-1) := by simp [PNumber.whispererref06_Number.j0]
  have jf (a : ByteArray) (x y : Int) : PNumber.whispererref06_Number.j0 (k + 3) a x y false = PNumber.whispererref06_Number.l0 (k + 2) a x y 0 := by simp [PNumber.whispererref06_Number.j0]
  have hlen : s.data.toList.length = s.size := by simp
  unfold PNumber.whispererref06_Number.f numB
  rw [ByteArray.toList_eq]
  by_cases h0 : s.data.toList = []
  · rw [if_pos h0, jt, if_pos (.inl h0)]
  · rw [if_neg h0]
    by_cases h1 : (s.size : Int) > (most : Int)
    · rw [if_pos h1, jt, if_pos (.inr (.inl (by omega)))]
    · rw [if_neg h1]
      have hpos : 0 < s.size := by
        rcases Nat.eq_zero_or_pos s.size with h | h
        · exact absurd (List.eq_nil_of_length_eq_zero (by omega)) h0
        · exact h
      rw [if_pos (by omega)]
      obtain ⟨x, hx1, hx2, hx3⟩ := bt_drop s 0 hpos
      rw [List.drop_zero] at hx1
      have hhead : s.data.toList.head? = some x := by rw [hx1]; rfl
      have loop : PNumber.whispererref06_Number.l0 (k + 2) s (b : Int) 0 0 = some (if isDigB b s.data.toList = true then (valB b s.data.toList : Int) else -1) := by
        show _ = some (numR b 0 s.data.toList)
        have hps : (0 + 1) * b ^ s.size ≤ 4611686018427387904 := by
          have : b ^ s.size ≤ b ^ most := Nat.pow_le_pow_right (by omega) (by omega)
          omega
        have := num_loop s b hb h16 (by omega) s.size 0 (k + 1 - s.size) 0 (by omega) hps
        rw [show k + 1 - s.size + 1 + s.size = k + 2 by omega, List.drop_zero] at this
        exact this
      rw [show ((0 : Nat) : Int) = (0 : Int) from rfl] at hx2
      rw [hx2]
      by_cases h2 : (x.toNat : Int) = 48
      · rw [if_pos h2]
        have e48 : x = 48 := UInt8.toNat_inj.1 (by simp; omega)
        by_cases h3 : s.data.toList = [48]
        · have : (s.data.toList != ([48] : List UInt8)) = false := by simpa using h3
          have hN : ¬ (s.data.toList = [] ∨ most < s.data.toList.length ∨ (s.data.toList.head? = some 48 ∧ s.data.toList ≠ [48])) := by
            rintro (h | h | h)
            · exact h0 h
            · omega
            · exact h.2 h3
          rw [this, jf, loop, if_neg hN]
        · have : (s.data.toList != ([48] : List UInt8)) = true := by simpa using h3
          rw [this, jt, if_pos (.inr (.inr ⟨by rw [hhead, e48], h3⟩))]
      · have hN : ¬ (s.data.toList = [] ∨ most < s.data.toList.length ∨ (s.data.toList.head? = some 48 ∧ s.data.toList ≠ [48])) := by
          rintro (h | h | h)
          · exact h0 h
          · omega
          · rw [hhead] at h
            have := Option.some.inj h.1
            subst this
            exact h2 rfl
        rw [if_neg h2, jf, loop, if_neg hN]
/-- What is read is the numeral of it. -/
theorem numB_sound {b most : Nat} {l : List UInt8} (hb : 2 ≤ b) (h16 : b ≤ 16) (h : 0 ≤ numB b most l) : digs b (numB b most l).toNat = l ∧ l.length ≤ most ∧ (numB b most l).toNat = valB b l := by
  unfold numB at h ⊢
  by_cases h1 : l = [] ∨ most < l.length ∨ (l.head? = some 48 ∧ l ≠ [48])
  · rw [if_pos h1] at h; omega
  · rw [if_neg h1] at h ⊢
    by_cases h2 : isDigB b l = true
    · rw [if_pos h2, Int.toNat_natCast]
      refine ⟨digs_valB b hb h16 l ((isDigB_iff b l).1 h2) ⟨fun e => h1 (.inl e), fun e => ?_⟩, ?_, rfl⟩
      · by_cases e2 : l = [48]
        · exact e2
        · exact absurd (.inr (.inr ⟨e, e2⟩)) h1
      · by_cases e : most < l.length
        · exact absurd (.inr (.inl e)) h1
        · omega
    · rw [if_neg h2] at h; omega
theorem numB_digs {b most u : Nat} (hb : 2 ≤ b) (h16 : b ≤ 16) (h : (digs b u).length ≤ most) : numB b most (digs b u) = u := by
  unfold numB
  rw [if_neg, if_pos ((isDigB_iff b _).2 (digs_dig b u hb h16)), valB_digs b u hb h16]
  rintro (e | e | e)
  · exact digs_ne b u e
  · omega
  · exact e.2 ((digs_canon b u hb h16).2 e.1)

/-! a number's digits -/
theorem digit_extract : ∀ d : Nat, d < 16 → (⟨#[48, 49, 50, 51, 52, 53, 54, 55, 56, 57, 97, 98, 99, 100, 101, 102]⟩ : ByteArray).extract d (d + 1) = ⟨#[dgt d]⟩ := by decide +kernel
open PDecimal in
theorem dec_step (b : Nat) (hb : 2 ≤ b) (h16 : b ≤ 16) (k u : Nat) (acc : ByteArray) (hu : u < 9223372036854775808) (hacc : acc.size ≤ 1000) (hgo : 0 < u ∨ acc.data.toList = []) :
    whispererref06_Decimal.l0 (k + 1) (u : Int) (b : Int) acc = whispererref06_Decimal.l0 k ((u / b : Nat) : Int) (b : Int) (ba (dgt (u % b) :: acc.data.toList)) := by
  have hm : u % b < b := Nat.mod_lt _ (by omega)
  have e1 : Int.tmod (u : Int) (b : Int) = ((u % b : Nat) : Int) := by rw [Int.tmod_eq_emod_of_nonneg (by omega)]; push_cast; rfl
  have e2 : Int.tdiv (u : Int) (b : Int) = ((u / b : Nat) : Int) := by rw [Int.tdiv_eq_ediv_of_nonneg (by omega)]; push_cast; rfl
  have hd : u / b ≤ u := Nat.div_le_self _ _
  generalize u % b = r at *
  generalize u / b = q at *
  have e3 : wrap64 ((r : Int) + 1) = ((r + 1 : Nat) : Int) := by rw [w64 (by omega) (by omega)]; omega
  have e4 : wrap64 (q : Int) = (q : Int) := w64 (by omega) (by omega)
  have e5 : (⟨#[dgt r]⟩ : ByteArray) ++ acc = ba (dgt r :: acc.data.toList) := by apply ba_ext; rw [ba_app, data_ba]; rfl
  have step : (if (b : Int) = 0 then (none : Option ByteArray) else (if 0 ≤ (Int.tmod (u : Int) (b : Int)) then (if (Int.tmod (u : Int) (b : Int)) ≤ (wrap64 ((Int.tmod (u : Int) (b : Int)) + 1)) then (if (wrap64 ((Int.tmod (u : Int) (b : Int)) + 1)) ≤ 16 then (if ((⟨#[48, 49, 50, 51, 52, 53, 54, 55, 56, 57, 97, 98, 99, 100, 101, 102]⟩ : ByteArray).extract ((Int.tmod (u : Int) (b : Int)) : Int).toNat ((wrap64 ((Int.tmod (u : Int) (b : Int)) + 1)) : Int).toNat).size + acc.size ≤ 9223372036854775807 then (whispererref06_Decimal.l0 k (wrap64 (Int.tdiv (u : Int) (b : Int))) (b : Int) (((⟨#[48, 49, 50, 51, 52, 53, 54, 55, 56, 57, 97, 98, 99, 100, 101, 102]⟩ : ByteArray).extract ((Int.tmod (u : Int) (b : Int)) : Int).toNat ((wrap64 ((Int.tmod (u : Int) (b : Int)) + 1)) : Int).toNat) ++ acc)) else (none)) else (none)) else (none)) else (none))) = whispererref06_Decimal.l0 k (q : Int) (b : Int) (ba (dgt r :: acc.data.toList)) := by
    rw [e1, e2, e3, e4, Int.toNat_natCast, Int.toNat_natCast, digit_extract r (by omega), e5, if_neg (by omega), if_pos (by omega), if_pos (by omega), if_pos (by omega), if_pos (by show 1 + acc.size ≤ _; omega)]
  simp only [whispererref06_Decimal.l0]
  by_cases h0 : (u : Int) > 0
  · rw [if_pos h0]
    exact step
  · have ha : acc.data.toList = [] := by
      rcases hgo with h | h
      · exact absurd (by omega) h0
      · exact h
    rw [if_neg h0, ByteArray.toList_eq, if_pos ha]
    exact step
open PDecimal in
theorem dec_end (b k : Nat) (acc : ByteArray) (h : acc.data.toList ≠ []) : whispererref06_Decimal.l0 (k + 1) 0 (b : Int) acc = some acc := by
  simp only [whispererref06_Decimal.l0]
  rw [if_neg (by decide), ByteArray.toList_eq, if_neg h]
open PDecimal in
theorem dec_run (b : Nat) (hb : 2 ≤ b) (h16 : b ≤ 16) : ∀ (u k : Nat) (acc : List UInt8), u < 9223372036854775808 → (digs b u).length ≤ k → acc.length + k ≤ 1000 → (0 < u ∨ acc = []) →
    whispererref06_Decimal.l0 (k + 1) (u : Int) (b : Int) (ba acc) = some (ba (digs b u ++ acc)) := by
  intro u
  induction u using Nat.strongRecOn with
  | _ u ih =>
    intro k acc hu hk hacc hgo
    rw [digs] at hk ⊢
    by_cases h : u < b
    · rw [dif_pos (.inl h)] at hk ⊢
      obtain ⟨k, rfl⟩ : ∃ m, k = m + 1 := ⟨k - 1, by simp at hk; omega⟩
      rw [dec_step b hb h16 _ u (ba acc) hu (by show acc.toArray.size ≤ _; simp; omega) (by rw [data_ba]; exact hgo), data_ba, Nat.div_eq_of_lt h, Nat.mod_eq_of_lt h]
      exact dec_end b k _ (by rw [data_ba]; simp)
    · rw [dif_neg (by omega)] at hk ⊢
      rw [List.length_append, List.length_singleton] at hk
      obtain ⟨k, rfl⟩ : ∃ m, k = m + 1 := ⟨k - 1, by omega⟩
      rw [dec_step b hb h16 _ u (ba acc) hu (by show acc.toArray.size ≤ _; simp; omega) (by rw [data_ba]; exact hgo), data_ba]
      have hpos : 0 < u / b := Nat.div_pos (by omega) (by omega)
      have := ih (u / b) (Nat.div_lt_self (by omega) (by omega)) k (dgt (u % b) :: acc) (by have := Nat.div_le_self u b; omega) (by omega) (by simp; omega) (.inl hpos)
      rw [this]
      simp
theorem dec_eq (b u k : Nat) (hb : 2 ≤ b) (h16 : b ≤ 16) (hu : u < 9223372036854775808) (hk : (digs b u).length ≤ k) (hk2 : k ≤ 1000) : PDecimal.whispererref06_Decimal.f (k + 1) (u : Int) (b : Int) = some (ba (digs b u)) := by
  unfold PDecimal.whispererref06_Decimal.f
  have := dec_run b hb h16 u k [] hu hk (by simp; omega) (.inr rfl)
  rw [List.append_nil] at this
  exact this

end Go.Proofs.YtbiogabekhegaaaGreatDoor.Hand

namespace Go.Proofs.YtbiogabekhegaaaGreatDoor.Hand
open Go.RowKit Go.Proofs.YtbiogabekhegaaaGreatDoorW.PrintWords Go.Proofs.YtbiogabekhegaaaGreatDoorW.PrintLast
set_option linter.unusedVariables false
set_option linter.unusedSimpArgs false

theorem first_of (c : UInt8) : ∀ l : List UInt8, c ∈ l → ∃ p r, l = p ++ c :: r ∧ c ∉ p
  | x :: r, h => by
    by_cases hx : x = c
    · subst hx; exact ⟨[], r, rfl, by simp⟩
    · obtain ⟨p, q, h1, h2⟩ := first_of c r (by rcases List.mem_cons.mp h with e | e; exact absurd e.symm hx; exact e)
      refine ⟨x :: p, q, by rw [h1]; rfl, ?_⟩
      intro hm
      rcases List.mem_cons.mp hm with e | e
      · exact hx e.symm
      · exact h2 e
theorem splitK_eq (c : UInt8) : ∀ (k : Nat) (l : List UInt8), l.count c ≤ k → Lib.splitK [c] 0 k l = splitB c l := by
  intro k
  induction k with
  | zero =>
    intro l h
    have hc : c ∉ l := fun hm => by have := List.count_pos_iff.mpr hm; omega
    rw [split_none c l hc]
    rfl
  | succ k ih =>
    intro l h
    by_cases hc : c ∈ l
    · obtain ⟨p, r, rfl, hp⟩ : ∃ p r, l = p ++ c :: r ∧ c ∉ p := by
        exact first_of c l hc
      have hi := index_at c r p hp
      unfold Lib.splitK
      rw [hi, if_neg (by simp; try omega), Int.toNat_natCast, split_app c p r hp]
      rw [show p.length + 0 = p.length from rfl, List.take_left, ← List.drop_drop, List.drop_left]
      rw [show List.drop [c].length (c :: r) = r from rfl]
      rw [ih r (by rw [List.count_append, List.count_cons_self] at h; omega)]
    · have hi := index_none c l hc
      unfold Lib.splitK
      rw [hi, if_pos (by decide), split_none c l hc]
def pieces (c : UInt8) (s : ByteArray) : List ByteArray := (splitB c s.data.toList).map ba
theorem pieces_eq (c : UInt8) (s : ByteArray) : Lib.splitB ⟨#[c]⟩ 0 (Lib.countB s ⟨#[c]⟩) s = pieces c s := by
  have h := Lib.splitB_data ⟨#[c]⟩ 0 (Lib.countB s ⟨#[c]⟩) s
  have h1 : Lib.countB s ⟨#[c]⟩ = s.data.toList.count c := Lib.count_one c _
  rw [show (⟨#[c]⟩ : ByteArray).data.toList = [c] from rfl, splitK_eq c _ _ (by rw [h1]; exact Nat.le_refl _)] at h
  unfold pieces
  rw [← h, List.map_map]
  exact (List.map_id' _ |>.symm) |> fun e => by
    refine e.trans (List.map_congr_left fun x _ => ?_)
    rfl
theorem pieces_length (c : UInt8) (s : ByteArray) : (pieces c s).length ≤ s.size + 1 := by
  unfold pieces
  rw [List.length_map, Lib.size_eq s]
  exact split_length c _
theorem pieces_size (c : UInt8) (s : ByteArray) : ∀ x ∈ pieces c s, x.size ≤ s.size := by
  intro x hx
  unfold pieces at hx
  obtain ⟨l, hl, rfl⟩ := List.mem_map.mp hx
  rw [Lib.size_eq s, Lib.size_eq (ba l), data_ba]
  rw [← join_split c s.data.toList]
  generalize splitB c s.data.toList = L at hl
  clear hx
  induction L with
  | nil => cases hl
  | cons a r ih =>
    by_cases hr : r = []
    · subst hr
      rw [List.mem_singleton.mp hl]
      exact Nat.le_refl _
    · rw [join_cons c a r hr, List.length_append, List.length_cons]
      rcases List.mem_cons.mp hl with rfl | h
      · omega
      · have := ih h; omega
theorem split_ok (s : ByteArray) (c : UInt8) (hs : s.size < 4294967281) (w : World) (HT : TabA w) :
    Calls Tryz.prog 31 #[.string s, .string ⟨#[c]⟩] w fun e w' => e = .returned (.slice (some ⟨w.heap.size, 0, none⟩) ((pieces c s).length : Nat) ((pieces c s).length : Nat)) ∧ w'.heap[w.heap.size]? = some (.cells ((pieces c s).map Value.string).toArray 9 (0, 0)) ∧ Below w.heap.size w w' := by
  obtain ⟨m, hm⟩ := HT.mx
  refine (Tryz.strings_Split s ⟨#[c]⟩ m w hs hm (Nat.le_refl 1)).mono ?_
  rintro e w' ⟨rfl, rfl⟩
  have hn : Lib.countB s ⟨#[c]⟩ + 1 = (pieces c s).length := by
    rw [← pieces_eq]
    exact (Lib.splitB_all ⟨#[c]⟩ (Nat.le_refl 1) 0 _ s rfl).symm
  rw [hn, pieces_eq]
  exact ⟨rfl, heap_alloc_new _ _, (Below.refl _ _).alloc (Nat.le_refl _) _⟩

theorem flag_any (s : ByteArray) (hs : s.size ≤ 281474976710656) (w : World) (HT : TabA w) :
    Calls Tryz.prog 63 #[.string s] w fun e w' => e = .returned (.tuple #[.int .u32 ((flagV s).1 : Int), .bool (flagV s).2]) ∧ Below w.heap.size w w' := by
  unfold flagV
  rcases idx_range s with h | ⟨j, h1, h2⟩
  · rw [if_neg (by omega)]
    exact flag_hex s hs h w HT
  · rw [if_pos (by omega), h2, Int.toNat_natCast]
    exact flag_name s j h1 h2 w HT

/-- The words for flags, read: all of the first k are right; their flags. -/
def okP (x : ByteArray) : Bool := (flagV x).2 || decide (x = ⟨#[45]⟩)
def orL (l : List ByteArray) : Nat := l.foldl (fun a x => a ||| (flagV x).1) 0
theorem or_lt (l : List ByteArray) : ∀ a, a < 4294967296 → l.foldl (fun a x => a ||| (flagV x).1) a < 4294967296 := by
  induction l with
  | nil => intro a h; exact h
  | cons x r ih =>
    intro a h
    exact ih _ (Nat.or_lt_two_pow (n := 32) h (by have := flagV_lt x; omega))
theorem orL_lt (l : List ByteArray) : orL l < 4294967296 := or_lt l 0 (by omega)
theorem orL_snoc (l : List ByteArray) (x : ByteArray) : orL (l ++ [x]) = orL l ||| (flagV x).1 := by unfold orL; rw [List.foldl_append]; rfl

theorem split_eq (s : ByteArray) (c : UInt8) (hs : s.size < 4294967281) (w : World) (HT : TabA w) :
    Calls Tryz.prog 31 #[.string s, .string ⟨#[c]⟩] w fun e w' => e = .returned (.slice (some ⟨w.heap.size, 0, none⟩) ((pieces c s).length : Nat) ((pieces c s).length : Nat)) ∧ w' = w.alloc (.cells ((pieces c s).map Value.string).toArray 9) := by
  obtain ⟨m, hm⟩ := HT.mx
  refine (Tryz.strings_Split s ⟨#[c]⟩ m w hs hm (Nat.le_refl 1)).mono ?_
  rintro e w' ⟨rfl, rfl⟩
  have hn : Lib.countB s ⟨#[c]⟩ + 1 = (pieces c s).length := by
    rw [← pieces_eq]
    exact (Lib.splitB_all ⟨#[c]⟩ (Nat.le_refl 1) 0 _ s rfl).symm
  rw [hn, pieces_eq]
  exact ⟨rfl, rfl⟩
theorem blk3 {W : World} {g : Nat} {t : TypeId} {a b c : Value} (h : W.heap[g]? = some (.cells #[a, b, c] t (0, 0))) (x y z : Value) :
    (((W.setCell ⟨g, 0, none⟩ x).setCell ⟨g, 1, none⟩ y).setCell ⟨g, 2, none⟩ z).heap[g]? = some (.cells #[x, y, z] t (0, 0)) :=
  blk_put (cs := #[x, y, c]) (blk_put (cs := #[x, b, c]) (blk_put (cs := #[a, b, c]) h 0 x rfl) 1 y rfl) 2 z rfl
theorem set_below {B : Nat} {w W : World} {g : Nat} (h : Below B w W) (hg : B ≤ g) (i : Nat) (v : Value) : Below B w (W.setCell ⟨g, i, none⟩ v) := h.setCell hg v
theorem set3_below {B : Nat} {w W : World} {g : Nat} (h : Below B w W) (hg : B ≤ g) (x y z : Value) : Below B w (((W.setCell ⟨g, 0, none⟩ x).setCell ⟨g, 1, none⟩ y).setCell ⟨g, 2, none⟩ z) := set_below (set_below (set_below h hg 0 x) hg 1 y) hg 2 z

def RdOk (s : ByteArray) (w : World) (f m t e : Nat) : Prop := Calls Tryz.prog 43 #[.string s] w fun e' w' => e' = .returned (.tuple #[.agg #[.int .u32 f, .int .u8 m, .int .u8 t], .int .i64 e]) ∧ Below w.heap.size w w'

set_option maxHeartbeats 4000000 in
set_option maxRecDepth 100000 in
theorem read_len (s : ByteArray) (hs : s.size ≤ 100000) (h3 : (pieces 32 s).length ≠ 3) (w : World) (HT : TabA w) : RdOk s w 0 0 0 8 := by
  unfold RdOk
  have hl := pieces_length 32 s
  have H1 := HT.below ((Below.refl _ w).alloc (Nat.le_refl _) (.cells #[.int .u32 0, .int .u8 0, .int .u8 0] 25))
  go_enter Tryz.func43, Tryz.ntmps43
  go_wp2_with (fail)
  refine (split_eq s 32 (by omega) _ H1).mono ?_
  rintro e w1 ⟨rfl, rfl⟩
  have hR : ((w.alloc (.cells #[.int .u32 0, .int .u8 0, .int .u8 0] 25)).alloc (.cells ((pieces 32 s).map Value.string).toArray 9)).heap[w.heap.size]? = some (.cells #[.int .u32 0, .int .u8 0, .int .u8 0] 25 (0, 0)) := (heap_alloc_old _ _ (by simp)).trans (heap_alloc_new _ _)
  have hb : Below w.heap.size w ((w.alloc (.cells #[.int .u32 0, .int .u8 0, .int .u8 0] 25)).alloc (.cells ((pieces 32 s).map Value.string).toArray 9)) := ((Below.refl _ w).alloc (Nat.le_refl _) _).alloc (by simp) _
  generalize (w.alloc (.cells #[.int .u32 0, .int .u8 0, .int .u8 0] 25)).alloc (.cells ((pieces 32 s).map Value.string).toArray 9) = W at *
  generalize (pieces 32 s).length = n at *
  have h3' : ((n : Int) != 3) = true := by simp; omega
  have c0 := (blk_cell hR 0).trans rfl
  have c1 := (blk_cell hR 1).trans rfl
  have c2 := (blk_cell hR 2).trans rfl
  have f0 := blk_frozen hR 0
  have f1 := blk_frozen hR 1
  have f2 := blk_frozen hR 2
  have hRA := Aside0.mk hR
  have hbA := Aside0.mk hb
  clear h3 hR hb H1
  go_wp2_with (fail)
  refine bodyPost_ret (results_ct rfl _ _ w.heap.size 25 #[.int .u32 0, .int .u8 0, .int .u8 0] (0, 0) _ rfl (by exact blk3 hRA.out _ _ _) Tryz.underlying25 rfl (by kernel_rfl)) rfl ?_
  exact ⟨rfl, set3_below hbA.out (Nat.le_refl _) _ _ _⟩

theorem pu8_any (t : ByteArray) (ht : t.size ≤ 281474976710656) (w : World) (HT : TabA w) :
    Calls Tryz.prog 64 #[.string t, .int .i64 10, .int .i64 8] w fun e w' => ∃ ev, e = .returned (.tuple #[.int .u64 (d8 t), ev]) ∧ ((d8ok t = false ∧ ∃ N, ev = .iface 139 (.pointer (some ⟨N, 0, none⟩))) ∨ (d8ok t = true ∧ ev = .nilIface)) ∧ Below w.heap.size w w' := by
  cases h : d8ok t
  · exact (pu8_bad t ht h w HT).mono fun e w' ⟨N, he, hb⟩ => ⟨_, he, .inl ⟨rfl, N, rfl⟩, hb⟩
  · exact (pu8_ok t ht h w).mono fun e w' ⟨he, hb⟩ => ⟨_, he, .inr ⟨rfl, rfl⟩, hb⟩
def retV (g : Bool) (f m t : Nat) : Value := if g then .tuple #[.agg #[.int .u32 f, .int .u8 m, .int .u8 t], .int .i64 0] else .tuple #[.agg #[.int .u32 0, .int .u8 0, .int .u8 0], .int .i64 8]
def goodB (s p0 p1 p2 : ByteArray) : Bool := (pieces 43 p0).all okP && d8ok p1 && d8ok p2 && decide (textV (orL (pieces 43 p0)) (d8 p1) (d8 p2) = s)
/-- The blocks while the loop runs. -/
structure RL (w wr : World) (p0 p1 p2 : ByteArray) (qs : List ByteArray) (acc : Nat) : Prop where
  r : wr.heap[w.heap.size]? = some (.cells #[.int .u32 0, .int .u8 0, .int .u8 0] 25 (0, 0))
  s1 : wr.heap[w.heap.size + 1]? = some (.cells #[.string p0, .string p1, .string p2] 9 (0, 0))
  a : wr.heap[w.heap.size + 1 + 1]? = some (.cells #[.int .u32 acc, .int .u8 0, .int .u8 0] 25 (0, 0))
  s2 : wr.heap[w.heap.size + 1 + 1 + 1]? = some (.cells (qs.map Value.string).toArray 9 (0, 0))
  b : Below w.heap.size w wr
theorem lt_of_block {W : World} {g : Nat} {o : Obj} (h : W.heap[g]? = some o) : g < W.heap.size := (Array.getElem?_eq_some_iff.1 h).1
theorem RL.below {w wr W : World} {p0 p1 p2 : ByteArray} {qs : List ByteArray} {acc : Nat} (h : RL w wr p0 p1 p2 qs acc) (hb : Below wr.heap.size wr W) : RL w W p0 p1 p2 qs acc :=
  ⟨(hb.block _ (lt_of_block h.r)).trans h.r, (hb.block _ (lt_of_block h.s1)).trans h.s1, (hb.block _ (lt_of_block h.a)).trans h.a, (hb.block _ (lt_of_block h.s2)).trans h.s2, h.b.trans (hb.mono h.b.size)⟩
theorem RL.put {w wr : World} {p0 p1 p2 : ByteArray} {qs : List ByteArray} {acc : Nat} (h : RL w wr p0 p1 p2 qs acc) (v : Nat) : RL w (wr.setCell ⟨w.heap.size + 1 + 1, 0, none⟩ (.int .u32 v)) p0 p1 p2 qs v :=
  ⟨(Below.heap_setCell wr _ _ _ (by simp; try omega)).trans h.r, (Below.heap_setCell wr _ _ _ (by simp; try omega)).trans h.s1, blk_put (cs := #[.int .u32 acc, .int .u8 0, .int .u8 0]) h.a 0 _ rfl, (Below.heap_setCell wr _ _ _ (by simp; try omega)).trans h.s2, set_below h.b (by omega) _ _⟩
theorem RL.start (w : World) (p0 p1 p2 : ByteArray) (qs : List ByteArray) :
    RL w ((((w.alloc (.cells #[.int .u32 0, .int .u8 0, .int .u8 0] 25)).alloc (.cells #[.string p0, .string p1, .string p2] 9)).alloc (.cells #[.int .u32 0, .int .u8 0, .int .u8 0] 25)).alloc (.cells (qs.map Value.string).toArray 9)) p0 p1 p2 qs 0 := by
  refine ⟨?_, ?_, ?_, ?_, ?_⟩
  · exact (heap_alloc_old _ _ (by simp; try omega)).trans ((heap_alloc_old _ _ (by simp; try omega)).trans ((heap_alloc_old _ _ (by simp)).trans (heap_alloc_new _ _)))
  · refine (heap_alloc_old _ _ (by simp; try omega)).trans ((heap_alloc_old _ _ (by simp)).trans ?_)
    have := heap_alloc_new (w.alloc (.cells #[.int .u32 0, .int .u8 0, .int .u8 0] 25)) (.cells #[.string p0, .string p1, .string p2] 9)
    simpa using this
  · refine (heap_alloc_old _ _ (by simp)).trans ?_
    have := heap_alloc_new ((w.alloc (.cells #[.int .u32 0, .int .u8 0, .int .u8 0] 25)).alloc (.cells #[.string p0, .string p1, .string p2] 9)) (.cells #[.int .u32 0, .int .u8 0, .int .u8 0] 25)
    simpa using this
  · have := heap_alloc_new (((w.alloc (.cells #[.int .u32 0, .int .u8 0, .int .u8 0] 25)).alloc (.cells #[.string p0, .string p1, .string p2] 9)).alloc (.cells #[.int .u32 0, .int .u8 0, .int .u8 0] 25)) (.cells (qs.map Value.string).toArray 9)
    simpa using this
  · exact (((((Below.refl _ w).alloc (Nat.le_refl _) _).alloc (by simp) _).alloc (by simp; try omega) _).alloc (by simp; try omega) _)
theorem all_step {α : Type} (f : α → Bool) (l : List α) (k : Nat) (hk : k < l.length) : (l.take (k + 1)).all f = ((l.take k).all f && f (l[k]'hk)) := by
  rw [List.take_succ_eq_append_getElem hk, List.all_append]; simp
theorem take_snocB (l : List ByteArray) (k : Nat) (hk : k < l.length) : l.take (k + 1) = l.take k ++ [l[k]'hk] := List.take_succ_eq_append_getElem hk
theorem all_not {α : Type} (f : α → Bool) (l : List α) (k : Nat) (hk : k < l.length) (h : f (l[k]'hk) = false) : l.all f = false := by
  cases hh : l.all f with
  | false => rfl
  | true =>
    have := (List.all_eq_true.mp hh) _ (List.getElem_mem hk)
    rw [h] at this; exact absurd this (by decide)

set_option maxHeartbeats 8000000 in
set_option maxRecDepth 100000 in
theorem read_walk (s : ByteArray) (hs : s.size ≤ 100000) (p0 p1 p2 : ByteArray) (hps : pieces 32 s = [p0, p1, p2]) (w : World) (HT : TabA w) :
    Calls Tryz.prog 43 #[.string s] w fun e' w' => e' = .returned (retV (goodB s p0 p1 p2) (orL (pieces 43 p0)) (d8 p1) (d8 p2)) ∧ Below w.heap.size w w' := by
  have hzz := pieces_size 32 s
  rw [hps] at hzz
  have hz0 : p0.size ≤ 100000 := Nat.le_trans (hzz p0 (by simp)) hs
  have hz1 : p1.size ≤ 100000 := Nat.le_trans (hzz p1 (by simp)) hs
  have hz2 : p2.size ≤ 100000 := Nat.le_trans (hzz p2 (by simp)) hs
  have hq := pieces_size 43 p0
  have hn := pieces_length 43 p0
  have HS := RL.start w p0 p1 p2 (pieces 43 p0)
  have H1 := HT.below ((Below.refl _ w).alloc (Nat.le_refl _) (.cells #[.int .u32 0, .int .u8 0, .int .u8 0] 25))
  have H2 := H1.below ((Below.refl _ _).alloc (Nat.le_refl _) (.cells #[.string p0, .string p1, .string p2] 9))
  have H3 := H2.below ((Below.refl _ _).alloc (Nat.le_refl _) (.cells #[.int .u32 0, .int .u8 0, .int .u8 0] 25))
  have HSp0 := split_eq s 32 (by omega) _ H1
  rw [hps] at HSp0
  have HSp : Calls Tryz.prog 31 #[.string s, .string ⟨#[32]⟩] (w.alloc (.cells #[.int .u32 0, .int .u8 0, .int .u8 0] 25)) fun e w' => e = .returned (.slice (some ⟨w.heap.size + 1, 0, none⟩) 3 3) ∧ w' = (w.alloc (.cells #[.int .u32 0, .int .u8 0, .int .u8 0] 25)).alloc (.cells #[.string p0, .string p1, .string p2] 9) := by
    simpa using HSp0
  have HSq := split_eq p0 43 (by omega) _ H3
  have e3 : (((w.alloc (.cells #[.int .u32 0, .int .u8 0, .int .u8 0] 25)).alloc (.cells #[.string p0, .string p1, .string p2] 9)).alloc (.cells #[.int .u32 0, .int .u8 0, .int .u8 0] 25)).heap.size = w.heap.size + 1 + 1 + 1 := by simp
  rw [e3] at HSq
  have hG : Aside0 (goodB s p0 p1 p2 = ((pieces 43 p0).all okP && d8ok p1 && d8ok p2 && decide (textV (orL (pieces 43 p0)) (d8 p1) (d8 p2) = s))) := ⟨rfl⟩
  generalize pieces 43 p0 = qs at *
  generalize goodB s p0 p1 p2 = good at *
  have hz := Aside0.mk (And.intro hz0 (And.intro hz1 (And.intro hz2 hq)))
  clear hz0 hz1 hz2 hq hps H1 H2 e3 HSp0 hzz
  have b10 := (blk_cell (heap_alloc_new (w.alloc (.cells #[.int .u32 0, .int .u8 0, .int .u8 0] 25)) (.cells #[.string p0, .string p1, .string p2] 9)) 0).trans rfl
  go_enter Tryz.func43, Tryz.ntmps43
  go_wp2_with (fail)
  refine HSp.mono ?_
  rintro e w1 ⟨rfl, rfl⟩
  go_wp2_with (fail)
  refine HSq.mono ?_
  rintro e w1 ⟨rfl, rfl⟩
  clear HSq HSp H3 b10
  generalize (((w.alloc (.cells #[.int .u32 0, .int .u8 0, .int .u8 0] 25)).alloc (.cells #[.string p0, .string p1, .string p2] 9)).alloc (.cells #[.int .u32 0, .int .u8 0, .int .u8 0] 25)).alloc (.cells (qs.map Value.string).toArray 9) = W0 at *
  generalize hnl : qs.length = n at *
  have hn2 : n ≤ 200000 := by have := hz.out.1; omega
  have HSA := Aside0.mk HS
  have hnA := Aside0.mk hnl
  clear HS hnl
  go_wp2_with (fail)
  go_loopw [25] (fun v25 wr => ∃ k : Nat, v25 = .int .i64 k ∧ Aside0 (k ≤ n) ∧ Aside0 (RL w wr p0 p1 p2 qs (orL (qs.take k)) ∧ (qs.take k).all okP = true)) (fun v25 _ => n - (intOf v25).toNat)
  case atStart => exact ⟨0, rfl, ⟨Nat.zero_le _⟩, ⟨HSA.out, rfl⟩⟩
  case round =>
    obtain ⟨k, rfl, hk, hR⟩ := hrel
    by_cases hlt : k < n
    · obtain ⟨hL, hall⟩ := hR.out
      have hkq : k < qs.length := by have := hnA.out; omega
      obtain ⟨x, hx⟩ : ∃ x, x = qs[k]'hkq := ⟨_, rfl⟩
      have hxs : x.size ≤ 281474976710656 := by
        have := hz.out.2.2.2 x (by rw [hx]; exact List.getElem_mem hkq)
        have := hz.out.1
        omega
      have hc : wr.cell? ⟨w.heap.size + 1 + 1 + 1, k, none⟩ = some (.string x) := (blk_cell hL.s2 k).trans (by simp [hkq, hx])
      have HF := flag_any x hxs wr (HT.below hL.b)
      have hsn : Aside0 (orL (qs.take (k + 1)) = orL (qs.take k) ||| (flagV x).1 ∧ (qs.take (k + 1)).all okP = okP x) := ⟨by rw [take_snocB qs k hkq, orL_snoc, ← hx], by rw [all_step okP qs k hkq, hall, ← hx]; rfl⟩
      have hor := Go.u32_or_nat (orL (qs.take k)) (flagV x).1 (orL_lt _) (by have := flagV_lt x; omega)
      have hno : Aside0 (okP x = false → good = false) := ⟨fun h => by rw [hG.out, all_not okP qs k hkq (by rw [← hx]; exact h)]; rfl⟩
      have hok : Aside0 (okP x = ((flagV x).2 || decide (x = ⟨#[45]⟩))) := ⟨rfl⟩
      have hLA := Aside0.mk hL
      clear hL hall hR hxs hx hkq
      generalize (flagV x).1 = F at *
      generalize (flagV x).2 = B at *
      generalize orL (qs.take k) = acc at *
      by_cases hB : B = false ∧ x ≠ ⟨#[45]⟩
      · obtain ⟨rfl, hxd⟩ := hB
        have hxn : (x.toList == [45]) = false := by
          have h2 := ba_beq x ⟨#[45]⟩
          rw [decide_eq_false hxd, show (⟨#[45]⟩ : ByteArray).toList = [45] from by decide +kernel] at h2
          exact h2
        have hgf : good = false := hno.out (by rw [hok.out, decide_eq_false hxd]; rfl)
        clear hxd hor
        go_wp2_with (fail)
        refine HF.mono ?_
        rintro e w2 ⟨rfl, hb⟩
        have hL := hLA.out.below hb
        have c0 := (blk_cell hL.r 0).trans rfl
        have c1 := (blk_cell hL.r 1).trans rfl
        have c2 := (blk_cell hL.r 2).trans rfl
        have f0 := blk_frozen hL.r 0
        have f1 := blk_frozen hL.r 1
        have f2 := blk_frozen hL.r 2
        have hL2 := Aside0.mk hL
        clear hL
        go_wp2_with (fail)
        refine bodyPost_ret (results_ct rfl _ _ w.heap.size 25 #[.int .u32 0, .int .u8 0, .int .u8 0] (0, 0) _ rfl (by exact blk3 hL2.out.r _ _ _) Tryz.underlying25 rfl (by kernel_rfl)) rfl ?_
        exact ⟨by rw [hgf]; rfl, set3_below hL2.out.b (Nat.le_refl _) _ _ _⟩
      · have hokx : okP x = true := by
          rw [hok.out]
          by_cases hx : x = ⟨#[45]⟩
          · rw [decide_eq_true hx]; cases B <;> rfl
          · cases B
            · exact absurd ⟨rfl, hx⟩ hB
            · rfl
        have hS : Aside0 (orL (qs.take (k + 1)) = acc ||| F ∧ (qs.take (k + 1)).all okP = true) := ⟨hsn.out.1, hsn.out.2.trans hokx⟩
        have hxx : B = true ∨ (B = false ∧ (x.toList == [45]) = true) := by
          cases B
          · refine .inr ⟨rfl, ?_⟩
            have hx : x = ⟨#[45]⟩ := Classical.byContradiction fun h => hB ⟨rfl, h⟩
            have h2 := ba_beq x ⟨#[45]⟩
            rw [decide_eq_true hx, show (⟨#[45]⟩ : ByteArray).toList = [45] from by decide +kernel] at h2
            exact h2
          · exact .inl rfl
        clear hokx hB
        rcases hxx with rfl | ⟨rfl, hxn⟩
        all_goals
          go_wp2_with (fail)
          refine HF.mono ?_
          rintro e w2 ⟨rfl, hb⟩
          have hL := hLA.out.below hb
          have c0 := (blk_cell hL.a 0).trans rfl
          have f0 := blk_frozen hL.a 0
          have hL2 := Aside0.mk (hL.put (acc ||| F))
          clear hL
          go_wp2_with (fail)
          go_roundw
          case rel => exact ⟨k + 1, by go_num, ⟨by omega⟩, ⟨by rw [hS.out.1]; exact hL2.out, hS.out.2⟩⟩
          case measure => simp [intOf]; omega
    · obtain ⟨hL, hall⟩ := hR.out
      have hkn : k = n := by have := hk.out; omega
      rw [hkn, ← hnA.out, List.take_length] at hL hall
      have hG2 : Aside0 (good = (d8ok p1 && d8ok p2 && decide (textV (orL qs) (d8 p1) (d8 p2) = s))) := ⟨by rw [hG.out, hall]; rfl⟩
      have s1 := (blk_cell hL.s1 1).trans rfl
      have s2 := (blk_cell hL.s1 2).trans rfl
      have hTW := HT.below hL.b
      have hm1 := d8_lt p1
      have hm2 := d8_lt p2
      have hfl := orL_lt qs
      have hLA := Aside0.mk hL
      have hp1 : p1.size ≤ 281474976710656 := by have := hz.out.2.1; omega
      have hp2 : p2.size ≤ 281474976710656 := by have := hz.out.2.2.1; omega
      have C1 := fun W HT => pu8_any p1 hp1 W HT
      have C2 := fun W HT => pu8_any p2 hp2 W HT
      clear hL hall hkn hR hp1 hp2
      generalize hem1 : d8 p1 = m1 at *
      generalize hem2 : d8 p2 = m2 at *
      generalize hefl : orL qs = fl at *
      have hE := Aside0.mk (And.intro hefl (And.intro hem1 hem2))
      clear hem1 hem2 hefl
      generalize d8ok p1 = b1 at *
      generalize d8ok p2 = b2 at *
      go_wp2_with (fail)
      refine (C1 _ hTW).mono ?_
      rintro e w3 ⟨ev1, rfl, he1, hb3⟩
      have hL3 := hLA.out.below hb3
      have s2 := (blk_cell hL3.s1 2).trans rfl
      have hTW := HT.below hL3.b
      have hLB := Aside0.mk hL3
      clear hL3 hb3
      go_wp2_with (fail)
      refine (C2 _ hTW).mono ?_
      rintro e w4 ⟨ev2, rfl, he2, hb4⟩
      have hL4 := hLB.out.below hb4
      have a0 := (blk_cell hL4.a 0).trans rfl
      have a1 := (blk_cell hL4.a 1).trans rfl
      have a2 := (blk_cell hL4.a 2).trans rfl
      have f1 := blk_frozen hL4.a 1
      have f2 := blk_frozen hL4.a 2
      have r0 := (blk_cell hL4.r 0).trans rfl
      have r1 := (blk_cell hL4.r 1).trans rfl
      have r2 := (blk_cell hL4.r 2).trans rfl
      have g0 := blk_frozen hL4.r 0
      have g1 := blk_frozen hL4.r 1
      have g2 := blk_frozen hL4.r 2
      have hLC := Aside0.mk hL4
      clear hL4 hb4 C1 C2
      have hr' : ((w4.setCell ⟨w.heap.size + 1 + 1, 1, none⟩ (.int .u8 m1)).setCell ⟨w.heap.size + 1 + 1, 2, none⟩ (.int .u8 m2)).heap[w.heap.size]? = some (.cells #[.int .u32 0, .int .u8 0, .int .u8 0] 25 (0, 0)) := (Below.heap_setCell _ _ _ _ (by simp; try omega)).trans ((Below.heap_setCell _ _ _ _ (by simp; try omega)).trans hLC.out.r)
      have ha' : ((w4.setCell ⟨w.heap.size + 1 + 1, 1, none⟩ (.int .u8 m1)).setCell ⟨w.heap.size + 1 + 1, 2, none⟩ (.int .u8 m2)).heap[w.heap.size + 1 + 1]? = some (.cells #[.int .u32 fl, .int .u8 m1, .int .u8 m2] 25 (0, 0)) := blk_put (cs := #[.int .u32 fl, .int .u8 m1, .int .u8 0]) (blk_put (cs := #[.int .u32 fl, .int .u8 0, .int .u8 0]) hLC.out.a 1 _ rfl) 2 _ rfl
      have hb' : Below w.heap.size w ((w4.setCell ⟨w.heap.size + 1 + 1, 1, none⟩ (.int .u8 m1)).setCell ⟨w.heap.size + 1 + 1, 2, none⟩ (.int .u8 m2)) := set_below (set_below hLC.out.b (by omega) _ _) (by omega) _ _
      have hT' := HT.below hb'
      have hRA := Aside0.mk hr'
      have hAA := Aside0.mk ha'
      have hBA := Aside0.mk hb'
      have HTx := fun (w' : World) (h : TabA w') => text_a fl m1 m2 hfl hm1 hm2 w' h.tt
      clear hr' ha' hb'
      rcases he1 with ⟨rfl, N1, rfl⟩ | ⟨rfl, rfl⟩
      · have hgf : good = false := hG2.out
        clear HTx
        go_wp2_with (fail)
        refine bodyPost_ret (results_ct rfl _ _ w.heap.size 25 #[.int .u32 0, .int .u8 0, .int .u8 0] (0, 0) _ rfl (by exact blk3 hRA.out _ _ _) Tryz.underlying25 rfl (by kernel_rfl)) rfl ?_
        exact ⟨by rw [hgf]; rfl, set3_below hBA.out (Nat.le_refl _) _ _ _⟩
      · rcases he2 with ⟨rfl, N2, rfl⟩ | ⟨rfl, rfl⟩
        · have hgf : good = false := hG2.out
          clear HTx
          go_wp2_with (fail)
          refine bodyPost_ret (results_ct rfl _ _ w.heap.size 25 #[.int .u32 0, .int .u8 0, .int .u8 0] (0, 0) _ rfl (by exact blk3 hRA.out _ _ _) Tryz.underlying25 rfl (by kernel_rfl)) rfl ?_
          exact ⟨by rw [hgf]; rfl, set3_below hBA.out (Nat.le_refl _) _ _ _⟩
        · have hts := ba_beq (textV fl m1 m2) s
          have hG3 : Aside0 (good = decide (textV fl m1 m2 = s)) := ⟨hG2.out⟩
          generalize textV fl m1 m2 = T at *
          go_wp2_with (fail)
          refine (HTx _ hT').mono ?_
          rintro e w5 ⟨rfl, hb5⟩
          have hr5 := (hb5.block _ (lt_of_block hRA.out)).trans hRA.out
          have ha5 := (hb5.block _ (lt_of_block hAA.out)).trans hAA.out
          have hbb5 := hBA.out.trans (hb5.mono hBA.out.size)
          have a0 := (blk_cell ha5 0).trans rfl
          have a1 := (blk_cell ha5 1).trans rfl
          have a2 := (blk_cell ha5 2).trans rfl
          have r0 := (blk_cell hr5 0).trans rfl
          have r1 := (blk_cell hr5 1).trans rfl
          have r2 := (blk_cell hr5 2).trans rfl
          have g0 := blk_frozen hr5 0
          have g1 := blk_frozen hr5 1
          have g2 := blk_frozen hr5 2
          have hRB := Aside0.mk hr5
          have hBB := Aside0.mk hbb5
          clear hr5 ha5 hbb5 hb5 hT' HTx
          by_cases hTs : T = s
          · have hgt : good = true := by rw [hG3.out, decide_eq_true hTs]
            have hts' : (T.toList == s.toList) = true := by rw [hts, decide_eq_true hTs]
            clear hts hTs
            go_wp2_with (fail)
            refine bodyPost_ret (results_ct rfl _ _ w.heap.size 25 #[.int .u32 fl, .int .u8 m1, .int .u8 m2] (0, 0) _ rfl (by exact blk3 hRB.out _ _ _) Tryz.underlying25 rfl (by kernel_rfl)) rfl ?_
            exact ⟨by rw [hgt, hE.out.1, hE.out.2.1, hE.out.2.2]; rfl, set3_below hBB.out (Nat.le_refl _) _ _ _⟩
          · have hgf : good = false := by rw [hG3.out, decide_eq_false hTs]
            have hts' : (T.toList == s.toList) = false := by rw [hts, decide_eq_false hTs]
            clear hts hTs
            go_wp2_with (fail)
            refine bodyPost_ret (results_ct rfl _ _ w.heap.size 25 #[.int .u32 0, .int .u8 0, .int .u8 0] (0, 0) _ rfl (by exact blk3 hRB.out _ _ _) Tryz.underlying25 rfl (by kernel_rfl)) rfl ?_
            exact ⟨by rw [hgf]; rfl, set3_below hBB.out (Nat.le_refl _) _ _ _⟩

end Go.Proofs.YtbiogabekhegaaaGreatDoor.Hand

namespace Go.Proofs.YtbiogabekhegaaaGreatDoor.Hand
open Go.RowKit Go.Proofs.YtbiogabekhegaaaGreatDoorW.PrintWords Go.Proofs.YtbiogabekhegaaaGreatDoorW.PrintLast
set_option linter.unusedVariables false
set_option linter.unusedSimpArgs false

def inA (a b c : Int) : Bool := decide (0 ≤ a) && decide (a ≤ 4294967295) && decide (0 ≤ b) && decide (b ≤ 255) && decide (0 ≤ c) && decide (c ≤ 255)
theorem inA_iff (a b c : Int) : inA a b c = true ↔ 0 ≤ a ∧ a ≤ 4294967295 ∧ 0 ≤ b ∧ b ≤ 255 ∧ 0 ≤ c ∧ c ≤ 255 := by
  simp [inA]; omega
def textI (a b c : Int) : ByteArray := textV a.toNat b.toNat c.toNat
def attrs_Text.f (a0_0 a0_1 a0_2 : Int) : Option ByteArray := if inA a0_0 a0_1 a0_2 = true then some (textI a0_0 a0_1 a0_2) else none
theorem attrs_Text.calls (a0_0 a0_1 a0_2 : Int) (r : ByteArray) (w : World) (HT : TabA w) (h : attrs_Text.f a0_0 a0_1 a0_2 = some r) :
    Calls Tryz.prog 41 #[.agg #[.int .u32 a0_0, .int .u8 a0_1, .int .u8 a0_2]] w fun e w' => e = .returned (.string r) ∧ Below w.heap.size w w' := by
  unfold attrs_Text.f at h
  split at h
  · rename_i hi
    obtain ⟨h1, h2, h3, h4, h5, h6⟩ := (inA_iff _ _ _).1 hi
    obtain rfl := Option.some.inj h
    obtain ⟨a, rfl⟩ := Int.eq_ofNat_of_zero_le h1
    obtain ⟨b, rfl⟩ := Int.eq_ofNat_of_zero_le h3
    obtain ⟨c, rfl⟩ := Int.eq_ofNat_of_zero_le h5
    exact text_a a b c (by omega) (by omega) (by omega) w HT.tt
  · cases h

/-- What attrs.Read answers: flags, Min, Time, the error. -/
def readV (s : ByteArray) : Int × Int × Int × Int :=
  match pieces 32 s with
  | [p0, p1, p2] => if goodB s p0 p1 p2 = true then ((orL (pieces 43 p0) : Nat), (d8 p1 : Nat), (d8 p2 : Nat), 0) else (0, 0, 0, 8)
  | _ => (0, 0, 0, 8)
def attrs_Read.f (a0 : ByteArray) : Option (Int × Int × Int × Int) := if a0.size ≤ 100000 then some (readV a0) else none
theorem attrs_Read.calls (a0 : ByteArray) (r1 r2 r3 r4 : Int) (w : World) (HT : TabA w) (h : attrs_Read.f a0 = some (r1, r2, r3, r4)) :
    Calls Tryz.prog 43 #[.string a0] w fun e w' => e = .returned (.tuple #[.agg #[.int .u32 r1, .int .u8 r2, .int .u8 r3], .int .i64 r4]) ∧ Below w.heap.size w w' := by
  unfold attrs_Read.f at h
  split at h
  · rename_i hs
    have h := Option.some.inj h
    unfold readV at h
    split at h
    · rename_i p0 p1 p2 hp
      refine (read_walk a0 hs p0 p1 p2 hp w HT).mono ?_
      rintro e w' ⟨rfl, hb⟩
      refine ⟨?_, hb⟩
      unfold retV
      split at h
      · rename_i hg
        rw [if_pos hg]
        injection h with h1 h; injection h with h2 h; injection h with h3 h4
        subst h1; subst h2; subst h3; subst h4
        rfl
      · rename_i hg
        rw [if_neg hg]
        injection h with h1 h; injection h with h2 h; injection h with h3 h4
        subst h1; subst h2; subst h3; subst h4
        rfl
    · rename_i hp
      injection h with h1 h; injection h with h2 h; injection h with h3 h4
      subst h1; subst h2; subst h3; subst h4
      refine read_len a0 hs (fun hl => ?_) w HT
      obtain ⟨p0, p1, p2, e⟩ : ∃ p0 p1 p2, pieces 32 a0 = [p0, p1, p2] := by
        match h3 : pieces 32 a0, hl with
        | [p0, p1, p2], _ => exact ⟨p0, p1, p2, rfl⟩
      exact hp p0 p1 p2 e
  · cases h

end Go.Proofs.YtbiogabekhegaaaGreatDoor.Hand
