/- What utf.Next answers, in closed form (plain Lean). -/
import Derived.Test.YtmdeehblmkpddaaDoorPNextx1
import Derived.Test.YtmdeehblmkpddaaDoorHandUtf
namespace Go.Proofs.YtmdeehblmkpddaaDoor.Hand
open Go.RowKit Go.Proofs.YtmdeehblmkpddaaDoor.PNext Go.Proofs.YtmdeehblmkpddaaDoorW.PrintWords Go.Proofs.YtmdeehblmkpddaaDoorW.PrintLast
set_option linter.unusedVariables false
set_option linter.unusedSimpArgs false

def nlo (b0 : Nat) : Nat := if b0 = 224 then 160 else if b0 = 240 then 144 else 128
def nhi (b0 : Nat) : Nat := if b0 = 237 then 159 else if b0 = 244 then 143 else 191
/-- The document's answer: the character, how many bytes, the error. -/
def nx (n b0 b1 b2 b3 : Nat) : Nat × Nat × Nat :=
  if b0 < 128 then (b0, 1, 0)
  else if b0 < 194 ∨ 244 < b0 then (0, 1, 8)
  else if n < 2 then (0, 1, 7)
  else if b1 < nlo b0 ∨ nhi b0 < b1 then (0, 1, 8)
  else if b0 < 224 then (b0 % 32 * 64 + b1 % 64, 2, 0)
  else if n < 3 then (0, 2, 7)
  else if b2 < 128 ∨ 191 < b2 then (0, 2, 8)
  else if b0 < 240 then (b0 % 16 * 4096 + b1 % 64 * 64 + b2 % 64, 3, 0)
  else if n < 4 then (0, 3, 7)
  else if b3 < 128 ∨ 191 < b3 then (0, 3, 8)
  else (b0 % 8 * 262144 + b1 % 64 * 4096 + b2 % 64 * 64 + b3 % 64, 4, 0)
/-- What the code comes to. -/
def goNx (n b0 b1 b2 b3 : Nat) : Nat × Nat × Nat :=
  if (Lib.decodeN n b0 b1 b2 b3).1 ≠ 65533 ∨ 1 < (Lib.decodeN n b0 b1 b2 b3).2 then ((Lib.decodeN n b0 b1 b2 b3).1, (Lib.decodeN n b0 b1 b2 b3).2, 0)
  else if n < 4 ∧ lookFull n b0 b1 b2 = false then (0, n, 7)
  else (0, if 2 ≤ n ∧ lookFull 2 b0 b1 b2 = false then (if 3 ≤ n ∧ lookFull 3 b0 b1 b2 = false then 3 else 2) else 1, 8)

theorem nx_class (n b0 b1 b2 b3 sz lo hi : Nat) (hn : 1 ≤ n) (hd : Lib.slowN n b0 b1 b2 b3 sz lo hi = Lib.decodeN n b0 b1 b2 b3) (h2 : 2 ≤ sz) (h4 : sz ≤ 4) (hs : Lib.firstT b0 % 8 = sz) (hl : Lib.accLo (Lib.firstT b0 / 16) = lo) (hh : Lib.accHi (Lib.firstT b0 / 16) = hi)
    (k1 : ¬ b0 < 128) (k2 : ¬ (b0 < 194 ∨ 244 < b0)) (kl : nlo b0 = lo) (kh : nhi b0 = hi) (kc : b0 < 224 ↔ sz ≤ 2) (kd : b0 < 240 ↔ sz ≤ 3) : goNx n b0 b1 b2 b3 = nx n b0 b1 b2 b3 := by
  have kc' : (b0 < 224) = (sz ≤ 2) := propext kc
  have kd' : (b0 < 240) = (sz ≤ 3) := propext kd
  unfold goNx nx lookFull
  rw [← hd, kl, kh, if_neg k1, if_neg k2, hs, hl, hh]
  unfold Lib.slowN
  simp only [kc', kd']
  obtain ⟨v2, hv2⟩ : ∃ v, b0 % 32 * 64 + b1 % 64 = v := ⟨_, rfl⟩
  obtain ⟨v3, hv3⟩ : ∃ v, b0 % 16 * 4096 + b1 % 64 * 64 + b2 % 64 = v := ⟨_, rfl⟩
  obtain ⟨v4, hv4⟩ : ∃ v, b0 % 8 * 262144 + b1 % 64 * 4096 + b2 % 64 * 64 + b3 % 64 = v := ⟨_, rfl⟩
  obtain ⟨p1, e1⟩ : ∃ p : Bool, (b1 < lo ∨ hi < b1) = (p = true) := ⟨decide (b1 < lo ∨ hi < b1), by simp⟩
  obtain ⟨p2, e2⟩ : ∃ p : Bool, (b2 < 128 ∨ 191 < b2) = (p = true) := ⟨decide (b2 < 128 ∨ 191 < b2), by simp⟩
  obtain ⟨p3, e3⟩ : ∃ p : Bool, (b3 < 128 ∨ 191 < b3) = (p = true) := ⟨decide (b3 < 128 ∨ 191 < b3), by simp⟩
  simp only [e1, e2, e3, hv2, hv3, hv4]
  clear hv2 hv3 hv4 e1 e2 e3 hd hs hl hh kl kh kc kd kc' kd' k1 k2
  obtain rfl | rfl | rfl : sz = 2 ∨ sz = 3 ∨ sz = 4 := by omega
  all_goals
    obtain rfl | rfl | rfl | h4 : n = 1 ∨ n = 2 ∨ n = 3 ∨ 4 ≤ n := by omega
  all_goals
    try
      have q1 : ¬ n < 2 := by omega
      have q2 : ¬ n < 3 := by omega
      have q3 : ¬ n < 4 := by omega
      have q4 : 2 ≤ n := by omega
      have q5 : 3 ≤ n := by omega
      simp only [q1, q2, q3, q4, q5, h4]
    clear hn
    cases p1 <;> cases p2 <;> cases p3 <;> simp

/-- THE CODE's ANSWER IS THE DOCUMENT's. -/
theorem goNx_eq (n b0 b1 b2 b3 : Nat) (hn : 1 ≤ n) (h0 : b0 < 256) (h1 : b1 < 256) (h2 : b2 < 256) (h3 : b3 < 256) : goNx n b0 b1 b2 b3 = nx n b0 b1 b2 b3 := by
  by_cases c1 : b0 < 128
  · unfold goNx nx Lib.decodeN
    rw [if_pos c1, if_pos c1, if_pos (.inl (by simp only; omega))]
  by_cases c2 : b0 < 194 ∨ 244 < b0
  · have ht : Lib.firstT b0 = 241 := by
      unfold Lib.firstT
      repeat' split
      all_goals first | rfl | omega
    have hd : Lib.decodeN n b0 b1 b2 b3 = (65533, 1) := by
      unfold Lib.decodeN
      repeat' split
      all_goals first | rfl | (exfalso; omega)
    have look (m : Nat) (hm : 1 ≤ m) : lookFull m b0 b1 b2 = true := by
      unfold lookFull
      rw [ht, if_pos (by omega)]
    unfold goNx nx
    rw [hd, if_neg c1, if_pos c2, look n hn, look 2 (by omega), look 3 (by omega)]
    simp
  have e (x : Nat) : (if b0 < 128 then 240 else if b0 < 194 then 241 else x) = x := by rw [if_neg c1, if_neg (by omega)]
  have hT : Lib.firstT b0 = if b0 < 224 then 2 else if b0 = 224 then 19 else if b0 < 237 then 3 else if b0 = 237 then 35 else if b0 < 240 then 3 else if b0 = 240 then 52 else if b0 < 244 then 4 else if b0 = 244 then 68 else 241 := by unfold Lib.firstT; rw [e]
  by_cases d1 : b0 < 224
  · rw [if_pos d1] at hT
    refine nx_class n b0 b1 b2 b3 2 128 191 hn (Lib.slow_C2 n b0 b1 b2 b3 hn h1 h2 h3 ⟨by omega, d1⟩) (by omega) (by omega) (by rw [hT]) (by rw [hT]; rfl) (by rw [hT]; rfl) c1 c2 ?_ ?_ (by omega) (by omega)
    · unfold nlo; rw [if_neg (by omega), if_neg (by omega)]
    · unfold nhi; rw [if_neg (by omega), if_neg (by omega)]
  by_cases d2 : b0 = 224
  · rw [if_neg d1, if_pos d2] at hT
    refine nx_class n b0 b1 b2 b3 3 160 191 hn (Lib.slow_E0 n b0 b1 b2 b3 hn h1 h2 h3 d2) (by omega) (by omega) (by rw [hT]) (by rw [hT]; rfl) (by rw [hT]; rfl) c1 c2 ?_ ?_ (by omega) (by omega)
    · unfold nlo; rw [if_pos d2]
    · unfold nhi; rw [if_neg (by omega), if_neg (by omega)]
  by_cases d3 : b0 = 237
  · have hT : Lib.firstT b0 = 35 := by rw [d3]; rfl
    refine nx_class n b0 b1 b2 b3 3 128 159 hn (Lib.slow_ED n b0 b1 b2 b3 hn h1 h2 h3 d3) (by omega) (by omega) (by rw [hT]) (by rw [hT]; rfl) (by rw [hT]; rfl) c1 c2 ?_ ?_ (by omega) (by omega)
    · unfold nlo; rw [if_neg (by omega), if_neg (by omega)]
    · unfold nhi; rw [if_pos d3]
  by_cases d4 : b0 < 240
  · have hT : Lib.firstT b0 = 3 := by
      rw [hT, if_neg d1, if_neg d2]
      by_cases q : b0 < 237
      · rw [if_pos q]
      · rw [if_neg q, if_neg d3, if_pos d4]
    refine nx_class n b0 b1 b2 b3 3 128 191 hn (Lib.slow_E1 n b0 b1 b2 b3 hn h1 h2 h3 (by omega)) (by omega) (by omega) (by rw [hT]) (by rw [hT]; rfl) (by rw [hT]; rfl) c1 c2 ?_ ?_ (by omega) (by omega)
    · unfold nlo; rw [if_neg (by omega), if_neg (by omega)]
    · unfold nhi; rw [if_neg (by omega), if_neg (by omega)]
  by_cases d5 : b0 = 240
  · have hT : Lib.firstT b0 = 52 := by rw [d5]; rfl
    refine nx_class n b0 b1 b2 b3 4 144 191 hn (Lib.slow_F0 n b0 b1 b2 b3 hn h1 h2 h3 d5) (by omega) (by omega) (by rw [hT]) (by rw [hT]; rfl) (by rw [hT]; rfl) c1 c2 ?_ ?_ (by omega) (by omega)
    · unfold nlo; rw [if_neg (by omega), if_pos d5]
    · unfold nhi; rw [if_neg (by omega), if_neg (by omega)]
  by_cases d6 : b0 = 244
  · have hT : Lib.firstT b0 = 68 := by rw [d6]; rfl
    refine nx_class n b0 b1 b2 b3 4 128 143 hn (Lib.slow_F4 n b0 b1 b2 b3 hn h1 h2 h3 d6) (by omega) (by omega) (by rw [hT]) (by rw [hT]; rfl) (by rw [hT]; rfl) c1 c2 ?_ ?_ (by omega) (by omega)
    · unfold nlo; rw [if_neg (by omega), if_neg (by omega)]
    · unfold nhi; rw [if_neg (by omega), if_pos d6]
  have hT : Lib.firstT b0 = 4 := by
    rw [hT, if_neg d1, if_neg d2, if_neg (by omega), if_neg d3, if_neg d4, if_neg d5, if_pos (by omega)]
  refine nx_class n b0 b1 b2 b3 4 128 191 hn (Lib.slow_F1 n b0 b1 b2 b3 hn h1 h2 h3 (by omega)) (by omega) (by omega) (by rw [hT]) (by rw [hT]; rfl) (by rw [hT]; rfl) c1 c2 ?_ ?_ (by omega) (by omega)
  · unfold nlo; rw [if_neg (by omega), if_neg (by omega)]
  · unfold nhi; rw [if_neg (by omega), if_neg (by omega)]

theorem at0_take (l : List Int) (m j : Nat) (hj : j < m) : at0 (l.take m) j = at0 l j := by
  unfold at0
  rw [List.getD_eq_getElem?_getD, List.getD_eq_getElem?_getD, List.getElem?_take, if_pos hj]
theorem look_take (l : List Int) (m : Nat) : lookFull m (at0 (l.take m) 0) (at0 (l.take m) 1) (at0 (l.take m) 2) = lookFull m (at0 l 0) (at0 l 1) (at0 l 2) ∨ m = 0 := by
  rcases Nat.eq_zero_or_pos m with h | h
  · exact .inr h
  · refine .inl ?_
    unfold lookFull
    rw [at0_take l m 0 h]
    rcases Nat.lt_or_ge 1 m with h1 | h1
    · rw [at0_take l m 1 h1]
      rcases Nat.lt_or_ge 2 m with h2 | h2
      · rw [at0_take l m 2 h2]
      · have e (x : Nat) : (2 < m ∧ (x < 128 ∨ 191 < x)) = False := by simp; omega
        simp only [e]
    · have e (x y z : Nat) : (1 < m ∧ (x < y ∨ z < x)) = False := by simp; omega
      have e' (x : Nat) : (2 < m ∧ (x < 128 ∨ 191 < x)) = False := by simp; omega
      simp only [e, e']
theorem bytes1_take {l : List Int} (h : bytes1 l = true) (m : Nat) (hm : 1 ≤ m) : bytes1 (l.take m) = true := by
  obtain ⟨h1, h2⟩ := (bytes1_iff l).1 h
  refine (bytes1_iff _).2 ⟨?_, fun x hx => h2 x (List.mem_of_mem_take hx)⟩
  cases l with
  | nil => exact absurd rfl h1
  | cons a l =>
    cases m with
    | zero => omega
    | succ m => simp
theorem beg_take {l : List Int} (h : bytes1 l = true) (m : Nat) (hm : 1 ≤ m) (hl : m ≤ l.length) : utf_beginning.f (l.take m) = some (decide (m < 4 ∧ lookFull m (at0 l 0) (at0 l 1) (at0 l 2) = false)) := by
  have el : (l.take m).length = m := by rw [List.length_take]; omega
  unfold utf_beginning.f utf8_FullRune.f
  rw [if_pos (bytes1_take h m hm), el, if_pos (by omega)]
  rcases look_take l m with e | e
  · rw [e]
    by_cases q : m < 4
    · rw [if_pos (by omega)]
      cases lookFull m (at0 l 0) (at0 l 1) (at0 l 2) <;> simp [q]
    · rw [if_neg (by omega)]
      simp [q]
  · omega
theorem beg_all {l : List Int} (h : bytes1 l = true) : utf_beginning.f l = some (decide (l.length < 4 ∧ lookFull l.length (at0 l 0) (at0 l 1) (at0 l 2) = false)) := by
  have h1 : 1 ≤ l.length := List.length_pos_iff.2 ((bytes1_iff l).1 h).1
  have := beg_take h l.length h1 (by omega)
  rwa [List.take_length] at this
theorem decodeN_lt (n b0 b1 b2 b3 : Nat) (h0 : b0 < 256) : (Lib.decodeN n b0 b1 b2 b3).1 < 4294967296 := by
  unfold Lib.decodeN
  repeat' split
  all_goals (simp only; omega)
theorem next_l0 {l : List Int} (h : bytes1 l = true) (k : Nat) : utf_Next.l0 (k + 3) l 1 = some (0, ((if 2 ≤ l.length ∧ lookFull 2 (at0 l 0) (at0 l 1) (at0 l 2) = false then (if 3 ≤ l.length ∧ lookFull 3 (at0 l 0) (at0 l 1) (at0 l 2) = false then 3 else 2) else 1 : Nat) : Int), 8) := by
  have w2 : wrap64 (1 + 1) = 2 := by unfold wrap64; rfl
  have w3 : wrap64 (2 + 1) = 3 := by unfold wrap64; rfl
  have w4 : wrap64 (3 + 1) = 4 := by unfold wrap64; rfl
  have t2 : (2 : Int).toNat = 2 := rfl
  have t3 : (3 : Int).toNat = 3 := rfl
  have t4 : (4 : Int).toNat = 4 := rfl
  unfold utf_Next.l0
  rw [w2, t2]
  by_cases c2 : 2 ≤ l.length
  · rw [if_pos (by omega), if_pos (by omega), if_pos (by omega), beg_take h 2 (by omega) c2, Option.bind_some]
    by_cases e2 : lookFull 2 (at0 l 0) (at0 l 1) (at0 l 2) = false
    · rw [decide_eq_true ⟨by omega, e2⟩, if_pos rfl, if_pos (show 2 ≤ l.length ∧ _ from ⟨c2, e2⟩)]
      unfold utf_Next.l0
      rw [w3, t3]
      by_cases c3 : 3 ≤ l.length
      · rw [if_pos (by omega), if_pos (by omega), if_pos (by omega), beg_take h 3 (by omega) c3, Option.bind_some]
        by_cases e3 : lookFull 3 (at0 l 0) (at0 l 1) (at0 l 2) = false
        · rw [decide_eq_true ⟨by omega, e3⟩, if_pos rfl, if_pos (show 3 ≤ l.length ∧ _ from ⟨c3, e3⟩)]
          unfold utf_Next.l0
          rw [w4, t4]
          by_cases c4 : 4 ≤ l.length
          · rw [if_pos (by omega), if_pos (by omega), if_pos (by omega), beg_take h 4 (by omega) c4, Option.bind_some, decide_eq_false (fun q => by omega), if_neg (by simp)]
            rfl
          · rw [if_neg (by omega)]
            rfl
        · rw [decide_eq_false (fun q => e3 q.2), if_neg (by simp), if_neg (fun q => e3 q.2)]
          rfl
      · rw [if_neg (by omega), if_neg (fun q => c3 q.1)]
        rfl
    · rw [decide_eq_false (fun q => e2 q.2), if_neg (by simp), if_neg (fun q => e2 q.2)]
      rfl
  · rw [if_neg (by omega), if_neg (fun q => c2 q.1)]
    rfl

/-- The document's answer on a list. -/
def nxL (l : List Int) : Nat × Nat × Nat := if l = [] then (0, 0, 6) else nx l.length (at0 l 0) (at0 l 1) (at0 l 2) (at0 l 3)
theorem at0_lt {l : List Int} (hb : ∀ x ∈ l, 0 ≤ x ∧ x ≤ 255) (j : Nat) : at0 l j < 256 := by
  by_cases hj : j < l.length
  · exact (at0_cast hb j hj).2
  · unfold at0
    rw [List.getD_eq_getElem?_getD, List.getElem?_eq_none (by omega)]
    decide
/-- WHAT utf.Next ANSWERS. -/
theorem next_f (k : Nat) (hk : 5 ≤ k) (l : List Int) (hb : ∀ x ∈ l, 0 ≤ x ∧ x ≤ 255) : utf_Next.f k l = some (((nxL l).1 : Int), ((nxL l).2.1 : Int), ((nxL l).2.2 : Int)) := by
  unfold utf_Next.f nxL
  by_cases hl : l = []
  · subst hl
    rfl
  · have h1 : 1 ≤ l.length := List.length_pos_iff.2 hl
    have h : bytes1 l = true := (bytes1_iff l).2 ⟨hl, hb⟩
    rw [if_neg (by omega), if_neg hl]
    unfold utf8_DecodeRune.f
    rw [if_pos h, Option.bind_some]
    rw [← goNx_eq l.length _ _ _ _ h1 (at0_lt hb 0) (at0_lt hb 1) (at0_lt hb 2) (at0_lt hb 3)]
    unfold goNx
    have hlt := decodeN_lt l.length (at0 l 0) (at0 l 1) (at0 l 2) (at0 l 3) (at0_lt hb 0)
    generalize Lib.decodeN l.length (at0 l 0) (at0 l 1) (at0 l 2) (at0 l 3) = d at *
    obtain ⟨k, rfl⟩ : ∃ j, k = j + 5 := ⟨k - 5, by omega⟩
    have fin (c : Int) (n : Int) (q : Bool) : utf_Next.j0 (k + 5) l c n q = if q = true then some (wrap64 c, n, 0) else if l.length < 4 ∧ lookFull l.length (at0 l 0) (at0 l 1) (at0 l 2) = false then some (0, (l.length : Int), 7) else utf_Next.l0 (k + 4) l 1 := by
      rw [utf_Next.j0, beg_all h, Option.bind_some]
      simp only [decide_eq_true_eq]
    have w1 : wrap64 (d.1 : Int) = d.1 := by
      unfold wrap64
      omega
    simp only [fin]
    rw [show k + 4 = k + 1 + 3 by omega, next_l0 h (k + 1)]
    by_cases c1 : d.1 = 65533
    · rw [if_pos (by omega)]
      by_cases c2 : 1 < d.2
      · rw [decide_eq_true (by omega), if_pos rfl, if_pos (.inr c2), w1]
        rfl
      · rw [decide_eq_false (by omega), if_neg (by simp), if_neg (show ¬ (d.1 ≠ 65533 ∨ 1 < d.2) by omega)]
        split
        · rfl
        · rfl
    · rw [if_neg (by omega), if_pos trivial, if_pos (.inl c1), w1]
      rfl

end Go.Proofs.YtmdeehblmkpddaaDoor.Hand
