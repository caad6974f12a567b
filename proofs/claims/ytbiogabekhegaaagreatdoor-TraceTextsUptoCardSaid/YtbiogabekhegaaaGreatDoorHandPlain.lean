/- Plain Lean of no program: decimal numerals, strings of bytes, characters in bytes. -/
import Derived.Lib.ItoaNum
import Derived.Lib.ItoaMem
import Derived.Laws.Strings
import Derived.Laws.BytesArg
import Derived.WideShapes
import Derived.WalkKit
import Derived.Lib.IndexMore
import Derived.Lib.AtoiAll
namespace Go.Proofs.YtbiogabekhegaaaGreatDoor.Hand
open Go.RowKit
set_option linter.unusedVariables false
set_option linter.unusedSimpArgs false

/-! decimal numerals -/
def decVal (l : List UInt8) : Nat := l.foldl (fun a c => a * 10 + (c.toNat - 48)) 0
theorem dig_val {d : Nat} (h : d < 10) : (UInt8.ofNat (48 + d)).toNat - 48 = d := by
  simp
  omega
theorem decVal_snoc (l : List UInt8) (c : UInt8) : decVal (l ++ [c]) = decVal l * 10 + (c.toNat - 48) := by
  unfold decVal
  rw [List.foldl_append]
  rfl
theorem decVal_digits (u : Nat) : decVal (Lib.decDigits u) = u := by
  induction u using Nat.strongRecOn with
  | _ u ih =>
    rw [Lib.decDigits]
    by_cases h : u < 10
    · rw [dif_pos h]
      show 0 * 10 + _ = u
      rw [dig_val h]
      omega
    · rw [dif_neg h, decVal_snoc, ih (u / 10) (by omega), dig_val (by omega)]
      omega
theorem decDigits_inj {u v : Nat} (h : Lib.decDigits u = Lib.decDigits v) : u = v := by
  rw [← decVal_digits u, ← decVal_digits v, h]
theorem dec_digit (u : Nat) : ∀ c ∈ Lib.decDigits u, 48 ≤ c.toNat ∧ c.toNat ≤ 57 := by
  induction u using Nat.strongRecOn with
  | _ u ih =>
    rw [Lib.decDigits]
    by_cases h : u < 10
    · rw [dif_pos h]
      intro c hc
      obtain rfl := List.mem_singleton.1 hc
      simp
      omega
    · rw [dif_neg h]
      intro c hc
      rcases List.mem_append.1 hc with hc | hc
      · exact ih (u / 10) (by omega) c hc
      · obtain rfl := List.mem_singleton.1 hc
        simp
        omega
theorem decDigits_ne (u : Nat) : Lib.decDigits u ≠ [] := by
  rw [Lib.decDigits]
  split <;> simp
theorem itoa_nat {n : Int} (h : 0 ≤ n) : Lib.itoa n = Lib.decDigits n.toNat := by
  unfold Lib.itoa
  rw [if_neg (by omega)]
theorem itoa_inj {m n : Int} (hm : 0 ≤ m) (hn : 0 ≤ n) (h : Lib.itoa m = Lib.itoa n) : m = n := by
  rw [itoa_nat hm, itoa_nat hn] at h
  have := decDigits_inj h
  omega

/-! strings out of lists -/
theorem ba_inj {l m : List UInt8} (h : (⟨l.toArray⟩ : ByteArray) = ⟨m.toArray⟩) : l = m := by
  have := congrArg (fun b : ByteArray => b.data.toList) h
  simpa using this
theorem ba_eta (b : ByteArray) : b = ⟨b.data.toList.toArray⟩ := by rfl
theorem ba_app (a b : ByteArray) : (a ++ b).data.toList = a.data.toList ++ b.data.toList := by simp
theorem ba_ext {a b : ByteArray} (h : a.data.toList = b.data.toList) : a = b := Go.WideShapes.bytes_inj h
theorem ba_beq (a b : ByteArray) : (a.toList == b.toList) = decide (a = b) := by
  rw [ByteArray.toList_eq, ByteArray.toList_eq]
  by_cases h : a = b
  · subst h; simp
  · rw [decide_eq_false h, beq_eq_false_iff_ne]
    intro e
    exact h (ba_ext e)
theorem nums_inj' {l m : List Int} (hl : ∀ x ∈ l, 0 ≤ x ∧ x ≤ 255) (hm : ∀ x ∈ m, 0 ≤ x ∧ x ≤ 255) (h : l.map (fun n => UInt8.ofNat n.toNat) = m.map (fun n => UInt8.ofNat n.toNat)) : l = m := by
  induction l generalizing m with
  | nil =>
    cases m with
    | nil => rfl
    | cons a r => simp at h
  | cons a r ih =>
    cases m with
    | nil => simp at h
    | cons b s =>
      simp only [List.map_cons, List.cons.injEq] at h
      have h1 := hl a (by simp)
      have h2 := hm b (by simp)
      have e : a = b := by
        have := congrArg UInt8.toNat h.1
        simp at this
        omega
      rw [e, ih (fun x hx => hl x (by simp [hx])) (fun x hx => hm x (by simp [hx])) h.2]
theorem nums_inj {l m : List Int} (hl : ∀ x ∈ l, 0 ≤ x ∧ x ≤ 255) (hm : ∀ x ∈ m, 0 ≤ x ∧ x ≤ 255) (h : strOfNums l = strOfNums m) : l = m := nums_inj' hl hm (ba_inj h)

/-! characters in bytes -/
def isChar (c : Int) : Bool := decide (0 ≤ c ∧ c ≤ 1114111) && !decide (55296 ≤ c ∧ c ≤ 57343)
def enc (c : Int) : List Int :=
  if c < 128 then [c] else if c < 2048 then [192 + c / 64, 128 + c % 64] else if c < 65536 then [224 + c / 4096, 128 + c / 64 % 64, 128 + c % 64]
  else [240 + c / 262144, 128 + c / 4096 % 64, 128 + c / 64 % 64, 128 + c % 64]
def prn (c : Int) : Bool := isChar c && decide (32 ≤ c) && !decide (127 ≤ c ∧ c ≤ 159)
theorem isChar_iff (c : Int) : isChar c = true ↔ 0 ≤ c ∧ c ≤ 1114111 ∧ ¬ (55296 ≤ c ∧ c ≤ 57343) := by
  unfold isChar
  simp only [Bool.and_eq_true, decide_eq_true_eq, Bool.not_eq_true', decide_eq_false_iff_not, and_assoc]
theorem prn_iff (c : Int) : prn c = true ↔ 32 ≤ c ∧ c ≤ 1114111 ∧ ¬ (55296 ≤ c ∧ c ≤ 57343) ∧ ¬ (127 ≤ c ∧ c ≤ 159) := by
  unfold prn
  simp only [Bool.and_eq_true, isChar_iff, decide_eq_true_eq, Bool.not_eq_true', decide_eq_false_iff_not]
  omega
theorem prn_char (c : Int) (h : prn c = true) : isChar c = true := (isChar_iff c).2 (by have := (prn_iff c).1 h; omega)
theorem enc_byte (c : Int) (h0 : 0 ≤ c) (h1 : c ≤ 1114111) : ∀ x ∈ enc c, 0 ≤ x ∧ x ≤ 255 := by
  unfold enc
  intro x hx
  split at hx
  · simp at hx; omega
  · split at hx
    · simp at hx; omega
    · split at hx
      · simp at hx; omega
      · simp at hx; omega
theorem enc_inj {c d : Int} (h0 : 0 ≤ c) (h1 : 0 ≤ d) (h : enc c = enc d) : c = d := by
  by_cases c1 : c < 128 <;> by_cases c2 : c < 2048 <;> by_cases c3 : c < 65536 <;> by_cases d1 : d < 128 <;> by_cases d2 : d < 2048 <;> by_cases d3 : d < 65536 <;>
    first
    | (exfalso; omega)
    | (simp [enc, c1, c2, c3, d1, d2, d3] at h; done)
    | (simp [enc, c1, c2, c3, d1, d2, d3] at h; omega)
theorem enc_head (c : Int) (h0 : 0 ≤ c) (h1 : c ≤ 1114111) : ∃ x r, enc c = x :: r ∧ (c < 128 → x = c) ∧ (128 ≤ c → 194 ≤ x ∧ x ≤ 244) ∧ r.length ≤ 3 := by
  unfold enc
  split
  · exact ⟨c, [], rfl, fun _ => rfl, fun h => by omega, by simp⟩
  · split
    · exact ⟨_, _, rfl, fun h => by omega, fun _ => by omega, by simp⟩
    · split
      · exact ⟨_, _, rfl, fun h => by omega, fun _ => by omega, by simp⟩
      · exact ⟨_, _, rfl, fun h => by omega, fun _ => by omega, by simp⟩

end Go.Proofs.YtbiogabekhegaaaGreatDoor.Hand

namespace Go.Proofs.YtbiogabekhegaaaGreatDoor.Hand
open Go.RowKit
set_option linter.unusedVariables false
set_option linter.unusedSimpArgs false

/-! a text cut at its first byte of a kind -/
theorem index_none (b : UInt8) : ∀ s : List UInt8, b ∉ s → Lib.index s [b] = -1
  | [], _ => rfl
  | x :: l, h => by
    have h1 : x ≠ b := fun e => h (by simp [e])
    have h2 := index_none b l (fun e => h (by simp [e]))
    unfold Lib.index
    rw [h2]
    have : ([b].isPrefixOf (x :: l)) = false := by
      simp [List.isPrefixOf]
      exact fun e => h1 e.symm
    rw [this]
    rfl
theorem index_at (b : UInt8) (r : List UInt8) : ∀ p : List UInt8, b ∉ p → Lib.index (p ++ b :: r) [b] = p.length
  | [], _ => by simp [Lib.index, List.isPrefixOf]
  | x :: l, h => by
    have h1 : x ≠ b := fun e => h (by simp [e])
    have h2 := index_at b r l (fun e => h (by simp [e]))
    show Lib.index (x :: (l ++ b :: r)) [b] = _
    unfold Lib.index
    rw [h2]
    have : ([b].isPrefixOf (x :: (l ++ b :: r))) = false := by
      simp [List.isPrefixOf]
      exact fun e => h1 e.symm
    rw [this]
    have e : ((l.length : Int) == -1) = false := by simp
    rw [e]
    simp
theorem cut_none (b : UInt8) (s : List UInt8) (h : b ∉ s) : Lib.cut s [b] = (s, [], false) := by
  unfold Lib.cut
  rw [index_none b s h]
  rfl
theorem cut_at (b : UInt8) (p r : List UInt8) (h : b ∉ p) : Lib.cut (p ++ b :: r) [b] = (p, r, true) := by
  unfold Lib.cut
  rw [index_at b r p h, if_pos (by omega)]
  have : ((p.length : Int).toNat + [b].length) = p.length + 1 := by simp
  rw [this]
  simp [List.drop_append]

theorem snoc_ind {α : Type} {P : List α → Prop} (nil : P []) (app : ∀ l a, P l → P (l ++ [a])) : ∀ l, P l := by
  intro l
  rw [← List.reverse_reverse l]
  induction l.reverse with
  | nil => exact nil
  | cons a r ih => rw [List.reverse_cons]; exact app _ _ ih

/-! digits to a base -/
def dgt (d : Nat) : UInt8 := if d < 10 then UInt8.ofNat (48 + d) else UInt8.ofNat (87 + d)
def digs (b u : Nat) : List UInt8 := if h : u < b ∨ b < 2 then [dgt u] else digs b (u / b) ++ [dgt (u % b)]
termination_by u
decreasing_by exact Nat.div_lt_self (by omega) (by omega)
theorem dgt_toNat {d : Nat} (h : d < 16) : (dgt d).toNat = if d < 10 then 48 + d else 87 + d := by
  unfold dgt
  split <;> simp <;> omega
theorem digs_dec (u : Nat) : digs 10 u = Lib.decDigits u := by
  induction u using Nat.strongRecOn with
  | _ u ih =>
    rw [digs, Lib.decDigits]
    by_cases h : u < 10
    · rw [dif_pos (.inl h), dif_pos h]
      unfold dgt
      rw [if_pos h]
    · rw [dif_neg (by omega), dif_neg h, ih (u / 10) (by omega)]
      unfold dgt
      rw [if_pos (by omega)]
/-- A digit's value; below 0: it is none. -/
def udg (c : UInt8) : Int := if 58 ≤ c.toNat then (if 97 ≤ c.toNat then (c.toNat : Int) - 87 else -1) else (c.toNat : Int) - 48
theorem udg_dgt {d : Nat} (h : d < 16) : udg (dgt d) = d := by
  unfold udg
  rw [dgt_toNat h]
  split <;> split <;> (try split) <;> omega
theorem dgt_udg {c : UInt8} (h0 : 0 ≤ udg c) (h1 : udg c < 16) : dgt (udg c).toNat = c := by
  apply UInt8.toNat_inj.1
  rw [dgt_toNat (by omega)]
  unfold udg at *
  split at h0
  · split at h0
    · rename_i a b
      rw [if_pos a, if_pos b] at *
      split <;> omega
    · omega
  · rename_i a
    rw [if_neg a] at *
    split <;> omega
def valB (b : Nat) (l : List UInt8) : Nat := l.foldl (fun a c => a * b + (udg c).toNat) 0
theorem valB_snoc (b : Nat) (l : List UInt8) (c : UInt8) : valB b (l ++ [c]) = valB b l * b + (udg c).toNat := by
  unfold valB
  rw [List.foldl_append]
  rfl
/-- Are these digits to a base? -/
def IsDig (b : Nat) (l : List UInt8) : Prop := ∀ c ∈ l, 0 ≤ udg c ∧ udg c < b
theorem valB_digs (b u : Nat) (hb : 2 ≤ b) (h16 : b ≤ 16) : valB b (digs b u) = u := by
  induction u using Nat.strongRecOn with
  | _ u ih =>
    rw [digs]
    by_cases h : u < b
    · rw [dif_pos (.inl h)]
      show 0 * b + (udg (dgt u)).toNat = u
      rw [udg_dgt (by omega)]
      omega
    · have hm := Nat.mod_lt u (show 0 < b by omega)
      rw [dif_neg (by omega), valB_snoc, ih (u / b) (Nat.div_lt_self (by omega) (by omega)), udg_dgt (by omega)]
      rw [Int.toNat_natCast, Nat.mul_comm]
      exact Nat.div_add_mod u b
theorem digs_dig (b u : Nat) (hb : 2 ≤ b) (h16 : b ≤ 16) : IsDig b (digs b u) := by
  induction u using Nat.strongRecOn with
  | _ u ih =>
    rw [digs]
    by_cases h : u < b
    · rw [dif_pos (.inl h)]
      intro c hc
      obtain rfl := List.mem_singleton.1 hc
      rw [udg_dgt (by omega)]
      omega
    · rw [dif_neg (by omega)]
      intro c hc
      rcases List.mem_append.1 hc with hc | hc
      · exact ih (u / b) (Nat.div_lt_self (by omega) (by omega)) c hc
      · obtain rfl := List.mem_singleton.1 hc
        have hm := Nat.mod_lt u (show 0 < b by omega)
        rw [udg_dgt (by omega)]
        omega
theorem digs_ne (b u : Nat) : digs b u ≠ [] := by
  rw [digs]
  split <;> simp
/-- A numeral begins with 0 only if it is 0. -/
theorem digs_head (b u : Nat) (hb : 2 ≤ b) (h16 : b ≤ 16) : (digs b u).head? = some 48 → u = 0 := by
  induction u using Nat.strongRecOn with
  | _ u ih =>
    rw [digs]
    by_cases h : u < b
    · rw [dif_pos (.inl h)]
      intro he
      have e : dgt u = 48 := by simpa using he
      have := congrArg UInt8.toNat e
      rw [dgt_toNat (by omega)] at this
      simp at this
      split at this <;> omega
    · rw [dif_neg (by omega)]
      intro he
      have : (digs b (u / b)).head? = some 48 := by
        cases hd : digs b (u / b) with
        | nil => exact absurd hd (digs_ne b _)
        | cons x r => rw [hd] at he; simpa using he
      have h0 := ih (u / b) (Nat.div_lt_self (by omega) (by omega)) this
      have := (Nat.div_eq_zero_iff).1 h0
      omega
/-- Digits without a 0 ahead are the numeral of their value. -/
def Canon (l : List UInt8) : Prop := l ≠ [] ∧ (l.head? = some 48 → l = [48])
theorem valB_pos (b : Nat) (hb : 2 ≤ b) (h16 : b ≤ 16) (l : List UInt8) : IsDig b l → Canon l → l ≠ [48] → 0 < valB b l := by
  induction l using snoc_ind with
  | nil => intro _ h; exact absurd rfl h.1
  | app l c ih =>
    intro hd hc hne
    rw [valB_snoc]
    have hdc := hd c (by simp)
    by_cases hl : l = []
    · subst hl
      have : c ≠ 48 := fun e => hne (by simp [e])
      have h1 : 0 < udg c := by
        rcases Int.lt_or_eq_of_le hdc.1 with h | h
        · exact h
        · exfalso
          have := dgt_udg hdc.1 (by omega)
          rw [← h] at this
          exact this.symm ▸ (by assumption : c ≠ 48) <| rfl
      show 0 < 0 * b + _
      omega
    · have hc2 : Canon l ∧ l ≠ [48] := by
        have hh : l.head? ≠ some 48 := by
          intro e
          have : (l ++ [c]).head? = some 48 := by
            cases l with
            | nil => exact absurd rfl hl
            | cons x r => simpa using e
          have := hc.2 this
          have := congrArg List.length this
          simp at this
          exact hl this
        exact ⟨⟨hl, fun e => absurd e hh⟩, fun e => hh (by rw [e]; rfl)⟩
      have := ih (fun x hx => hd x (by simp [hx])) hc2.1 hc2.2
      have : 0 < valB b l * b := Nat.mul_pos this (by omega)
      omega
theorem digs_valB (b : Nat) (hb : 2 ≤ b) (h16 : b ≤ 16) (l : List UInt8) : IsDig b l → Canon l → digs b (valB b l) = l := by
  induction l using snoc_ind with
  | nil => intro _ h; exact absurd rfl h.1
  | app l c ih =>
    intro hd hc
    have hdc := hd c (by simp)
    rw [valB_snoc]
    by_cases hl : l = []
    · subst hl
      show digs b (0 * b + (udg c).toNat) = [c]
      rw [digs, dif_pos (.inl (by omega))]
      have := dgt_udg hdc.1 (by omega)
      rw [show 0 * b + (udg c).toNat = (udg c).toNat by omega, this]
    · have hh : l.head? ≠ some 48 := by
        intro e
        have : (l ++ [c]).head? = some 48 := by
          cases l with
          | nil => exact absurd rfl hl
          | cons x r => simpa using e
        have := hc.2 this
        have := congrArg List.length this
        simp at this
        exact hl this
      have hcl : Canon l := ⟨hl, fun e => absurd e hh⟩
      have hdl : IsDig b l := fun x hx => hd x (by simp [hx])
      have hp := valB_pos b hb h16 l hdl hcl (fun e => hh (by rw [e]; rfl))
      have hlt : (udg c).toNat < b := by omega
      have hge : ¬ (valB b l * b + (udg c).toNat < b ∨ b < 2) := by
        have : b ≤ valB b l * b := Nat.le_mul_of_pos_left b hp
        omega
      rw [digs, dif_neg hge]
      have e1 : (valB b l * b + (udg c).toNat) / b = valB b l := by
        rw [Nat.mul_comm, Nat.mul_add_div (by omega), Nat.div_eq_of_lt hlt, Nat.add_zero]
      have e2 : (valB b l * b + (udg c).toNat) % b = (udg c).toNat := by
        rw [Nat.mul_comm, Nat.mul_add_mod, Nat.mod_eq_of_lt hlt]
      rw [e1, e2, ih hdl hcl, dgt_udg hdc.1 (by omega)]
theorem digs_canon (b u : Nat) (hb : 2 ≤ b) (h16 : b ≤ 16) : Canon (digs b u) := by
  refine ⟨digs_ne b u, fun h => ?_⟩
  have := digs_head b u hb h16 h
  subst this
  rw [digs, dif_pos (.inl (by omega))]
  rfl
theorem valB_lt (b : Nat) (l : List UInt8) (hb : 2 ≤ b) (h : IsDig b l) : valB b l < b ^ l.length := by
  induction l using snoc_ind with
  | nil => simp [valB]
  | app l c ih =>
    have h1 := ih (fun x hx => h x (by simp [hx]))
    have h2 := h c (by simp)
    rw [valB_snoc, List.length_append, List.length_singleton, Nat.pow_succ]
    have : (valB b l + 1) * b ≤ b ^ l.length * b := Nat.mul_le_mul_right b h1
    rw [Nat.add_mul] at this
    omega
theorem digs_inj (b : Nat) (hb : 2 ≤ b) (h16 : b ≤ 16) {u v : Nat} (h : digs b u = digs b v) : u = v := by
  rw [← valB_digs b u hb h16, ← valB_digs b v hb h16, h]
theorem digs_len {b n u : Nat} (hb : 2 ≤ b) (h16 : b ≤ 16) (hn : 1 ≤ n) (h : u < b ^ n) : (digs b u).length ≤ n := by
  induction n generalizing u with
  | zero => omega
  | succ n ih =>
    rw [digs]
    by_cases hu : u < b
    · rw [dif_pos (.inl hu)]; simp
    · rw [dif_neg (by omega), List.length_append, List.length_singleton]
      have hn1 : 1 ≤ n := by
        rcases Nat.eq_zero_or_pos n with h0 | h0
        · subst h0; simp at h; omega
        · exact h0
      have : u / b < b ^ n := by
        rw [Nat.div_lt_iff_lt_mul (by omega)]
        rwa [Nat.pow_succ] at h
      have := ih hn1 this
      omega
theorem udg_dec {c : UInt8} : (0 ≤ udg c ∧ udg c < 10) ↔ (48 ≤ c.toNat ∧ c.toNat ≤ 57) := by
  unfold udg
  split
  · split <;> omega
  · omega

/-! strconv.Atoi of a numeral -/
theorem parse_ok : ∀ (l : List UInt8) (acc : Nat), IsDig 10 l → (l.foldl (fun a c => a * 10 + (udg c).toNat) acc) < 18446744073709551616 → Lib.parseUint10 acc l = .ok (l.foldl (fun a c => a * 10 + (udg c).toNat) acc)
  | [], acc, _, _ => rfl
  | c :: r, acc, hd, h => by
    have hc := hd c (by simp)
    have hc' := udg_dec.1 hc
    have hu : (udg c).toNat = c.toNat - 48 := by
      unfold udg
      rw [if_neg (by omega)]
      omega
    have mono : ∀ (l : List UInt8) (a : Nat), a ≤ l.foldl (fun a c => a * 10 + (udg c).toNat) a := by
      intro l
      induction l with
      | nil => intro a; exact Nat.le_refl a
      | cons x t ih => intro a; exact Nat.le_trans (show a ≤ a * 10 + (udg x).toNat by omega) (ih _)
    have hm := mono r (acc * 10 + (udg c).toNat)
    simp only [List.foldl_cons] at h ⊢
    unfold Lib.parseUint10
    rw [if_pos hc', if_neg (by omega), if_neg (by omega), ← hu]
    exact parse_ok r _ (fun x hx => hd x (by simp [hx])) h
theorem atoi_digs (u : Nat) (h : u < 9223372036854775808) : Lib.atoiAll (Lib.decDigits u) = .ok (u : Int) := by
  have hd := digs_dig 10 u (by omega) (by omega)
  have hv := valB_digs 10 u (by omega) (by omega)
  rw [digs_dec] at hd hv
  cases hl : Lib.decDigits u with
  | nil => exact absurd hl (decDigits_ne u)
  | cons c r =>
    rw [hl] at hd hv
    have hc := udg_dec.1 (hd c (by simp))
    have hp : Lib.parseMag (c :: r) = .ok u := by
      unfold Lib.parseMag
      rw [if_neg (by simp), parse_ok (c :: r) 0 hd (by
        show valB 10 (c :: r) < _
        rw [hv]; omega)]
      show Lib.NumEnd.ok (valB 10 (c :: r)) = _
      rw [hv]
    simp only [Lib.atoiAll]
    rw [if_neg (by omega), hp]
    simp only
    rw [if_neg (by omega), if_neg (by omega), if_neg (by omega)]

end Go.Proofs.YtbiogabekhegaaaGreatDoor.Hand
