/- The document's own Next and Fine (printed under PFine), in closed form. -/
import Derived.Test.YtoeaidhkohfaoaaDoorHandCheck
import Derived.Test.YtoeaidhkohfaoaaDoorPFinex3
namespace Go.Proofs.YtoeaidhkohfaoaaDoor.Hand
open Go.RowKit Go.Proofs.YtoeaidhkohfaoaaDoor.PFine Go.Proofs.YtoeaidhkohfaoaaDoorW.PrintWords Go.Proofs.YtoeaidhkohfaoaaDoorW.PrintLast
set_option linter.unusedVariables false
set_option linter.unusedSimpArgs false

def szN (b : Nat) : Nat := if b < 128 then 1 else if b < 194 then 0 else if b < 224 then 2 else if b < 240 then 3 else if b < 245 then 4 else 0
theorem size_eq (k b : Nat) : whispererref01_size.f (k + 2) (b : Int) = some (szN b : Int) := by
  unfold whispererref01_size.f szN
  by_cases c1 : b < 128
  · rw [if_pos (by omega), if_pos c1]; rfl
  · rw [if_neg (by omega), if_neg c1]
    by_cases c2 : b < 194
    · rw [if_neg (by omega), if_pos c2, whispererref01_size.j0, if_neg (by decide), if_neg (by omega), whispererref01_size.j1, if_neg (by decide), if_neg (by omega)]; rfl
    · rw [if_pos (by omega), if_neg c2, whispererref01_size.j0]
      by_cases c3 : b < 224
      · rw [if_pos (decide_eq_true (by omega)), if_pos c3]; rfl
      · rw [if_neg (by rw [decide_eq_false (by omega)]; decide), if_neg c3, if_pos (by omega), whispererref01_size.j1]
        by_cases c4 : b < 240
        · rw [if_pos (decide_eq_true (by omega)), if_pos c4]; rfl
        · rw [if_neg (by rw [decide_eq_false (by omega)]; decide), if_neg c4, if_pos (by omega)]
          by_cases c5 : b < 245
          · rw [if_pos (by omega), if_pos c5]; rfl
          · rw [if_neg (by omega), if_neg c5]; rfl
theorem second_eq (a c : Nat) : whispererref01_second.f (a : Int) (c : Int) = some (decide (¬ (c < nlo a ∨ nhi a < c))) := by
  have fin (x : Bool) (p : Prop) [Decidable p] (h : x = true ↔ p) : some x = some (decide p) := congrArg some (Bool.eq_iff_iff.2 (by simpa using h))
  unfold whispererref01_second.f
  by_cases c1 : a = 224
  · have e1 : nlo a = 160 := by unfold nlo; rw [if_pos c1]
    have e2 : nhi a = 191 := by unfold nhi; rw [if_neg (by omega), if_neg (by omega)]
    rw [if_pos (by omega), e1, e2]
    split
    · exact fin _ _ (by rw [decide_eq_true_iff]; omega)
    · exact fin _ _ (by simp; omega)
  · rw [if_neg (by omega)]
    by_cases c2 : a = 237
    · have e1 : nlo a = 128 := by unfold nlo; rw [if_neg (by omega), if_neg (by omega)]
      have e2 : nhi a = 159 := by unfold nhi; rw [if_pos c2]
      rw [if_pos (by omega), e1, e2]
      split
      · exact fin _ _ (by rw [decide_eq_true_iff]; omega)
      · exact fin _ _ (by simp; omega)
    · rw [if_neg (by omega)]
      by_cases c3 : a = 240
      · have e1 : nlo a = 144 := by unfold nlo; rw [if_neg (by omega), if_pos c3]
        have e2 : nhi a = 191 := by unfold nhi; rw [if_neg (by omega), if_neg (by omega)]
        rw [if_pos (by omega), e1, e2]
        split
        · exact fin _ _ (by rw [decide_eq_true_iff]; omega)
        · exact fin _ _ (by simp; omega)
      · rw [if_neg (by omega)]
        have e1 : nlo a = 128 := by unfold nlo; rw [if_neg (by omega), if_neg (by omega)]
        by_cases c4 : a = 244
        · have e2 : nhi a = 143 := by unfold nhi; rw [if_neg (by omega), if_pos c4]
          rw [if_pos (by omega), e1, e2]
          split
          · exact fin _ _ (by rw [decide_eq_true_iff]; omega)
          · exact fin _ _ (by simp; omega)
        · have e2 : nhi a = 191 := by unfold nhi; rw [if_neg (by omega), if_neg (by omega)]
          rw [if_neg (by omega), e1, e2]
          split
          · exact fin _ _ (by rw [decide_eq_true_iff]; omega)
          · exact fin _ _ (by simp; omega)
theorem wr64 {x : Int} (h0 : -9223372036854775808 ≤ x) (h1 : x ≤ 9223372036854775807) : wrap64 x = x := by unfold wrap64; omega
theorem rd_at0 {l : List Int} (hb : ∀ x ∈ l, 0 ≤ x ∧ x ≤ 255) (j : Nat) (hj : j < l.length) : rd l (j : Int) = (at0 l j : Int) := by
  unfold rd
  rw [(at0_cast hb j hj).1]
  simp [hj]

theorem l0_end (k : Nat) (l : List Int) (s v i : Int) (h : ¬ i < s) : whispererref01_Next.l0 (k + 1) l s v i = some (v, s, 0) := by
  rw [whispererref01_Next.l0, if_neg h]
theorem l0_short (k : Nat) (l : List Int) (s v i : Int) (h : i < s) (h2 : i = (l.length : Int)) : whispererref01_Next.l0 (k + 1) l s v i = some (0, i, 7) := by
  rw [whispererref01_Next.l0, if_pos h, if_pos h2]
theorem l0_one {l : List Int} (hb : ∀ x ∈ l, 0 ≤ x ∧ x ≤ 255) (k : Nat) (s : Int) (v : Nat) (h : 1 < s) (h2 : 1 < l.length) (hv : v < 32) :
    whispererref01_Next.l0 (k + 1) l s (v : Int) 1 = if at0 l 1 < nlo (at0 l 0) ∨ nhi (at0 l 0) < at0 l 1 then some (0, 1, 8) else whispererref01_Next.l0 k l s (64 * (v : Int) + (at0 l 1 : Int) - 128) 2 := by
  have r0 := rd_at0 hb 0 (by omega)
  have r1 := rd_at0 hb 1 h2
  have l1 := at0_lt hb 1
  rw [show ((0 : Nat) : Int) = 0 from rfl] at r0
  rw [show ((1 : Nat) : Int) = 1 from rfl] at r1
  rw [whispererref01_Next.l0, if_pos h, if_neg (by omega), if_pos rfl, if_pos (by omega), if_pos (by omega), r0, r1, second_eq, Option.bind_some]
  by_cases c : at0 l 1 < nlo (at0 l 0) ∨ nhi (at0 l 0) < at0 l 1
  · rw [if_pos c, decide_eq_false (fun h => h c), if_neg (by decide)]
  · rw [if_neg c, decide_eq_true c, if_pos rfl, if_neg (by omega), if_pos (by omega), if_pos (by omega)]
    rw [wr64 (x := 64 * (v : Int)) (by omega) (by omega), wr64 (x := (at0 l 1 : Int)) (by omega) (by omega), wr64 (x := 64 * (v : Int) + (at0 l 1 : Int)) (by omega) (by omega), wr64 (x := 64 * (v : Int) + (at0 l 1 : Int) - 128) (by omega) (by omega), wr64 (x := (1 + 1 : Int)) (by omega) (by omega)]
    rfl
theorem l0_more {l : List Int} (hb : ∀ x ∈ l, 0 ≤ x ∧ x ≤ 255) (k : Nat) (s : Int) (v : Int) (i : Nat) (hi : 2 ≤ i) (hi2 : i ≤ 3) (h : (i : Int) < s) (h2 : i < l.length) (hv0 : 0 ≤ v) (hv : v < 262144) :
    whispererref01_Next.l0 (k + 1) l s v (i : Int) = if at0 l i < 128 ∨ 191 < at0 l i then some (0, (i : Int), 8) else whispererref01_Next.l0 k l s (64 * v + at0 l i - 128) ((i + 1 : Nat) : Int) := by
  have r1 := rd_at0 hb i h2
  have l1 := at0_lt hb i
  rw [whispererref01_Next.l0, if_pos h, if_neg (by omega), if_neg (by omega), if_pos (by omega), if_pos (by omega), if_pos (by omega), r1]
  by_cases c1 : at0 l i < 128
  · rw [if_pos (by omega), if_pos (.inl c1)]
  · rw [if_neg (by omega)]
    by_cases c2 : 191 < at0 l i
    · rw [if_pos (by omega), if_pos (.inr c2)]
    · rw [if_neg (by omega), if_neg (by omega)]
      rw [wr64 (x := 64 * v) (by omega) (by omega), wr64 (x := (at0 l i : Int)) (by omega) (by omega), wr64 (x := 64 * v + (at0 l i : Int)) (by omega) (by omega), wr64 (x := 64 * v + (at0 l i : Int) - 128) (by omega) (by omega), wr64 (x := (i : Int) + 1) (by omega) (by omega)]
      rfl

theorem l0_core {l : List Int} (hb : ∀ x ∈ l, 0 ≤ x ∧ x ≤ 255) (k sz v : Nat) (h2 : 2 ≤ sz) (h4 : sz ≤ 4) (hv : v < 32) (hl : 1 ≤ l.length) :
    whispererref01_Next.l0 (k + 4) l (sz : Int) (v : Int) 1 =
      if l.length < 2 then some (0, 1, 7) else if at0 l 1 < nlo (at0 l 0) ∨ nhi (at0 l 0) < at0 l 1 then some (0, 1, 8)
      else if sz = 2 then some (64 * (v : Int) + at0 l 1 - 128, 2, 0) else if l.length < 3 then some (0, 2, 7)
      else if at0 l 2 < 128 ∨ 191 < at0 l 2 then some (0, 2, 8) else if sz = 3 then some (64 * (64 * (v : Int) + at0 l 1 - 128) + at0 l 2 - 128, 3, 0)
      else if l.length < 4 then some (0, 3, 7) else if at0 l 3 < 128 ∨ 191 < at0 l 3 then some (0, 3, 8) else some (64 * (64 * (64 * (v : Int) + at0 l 1 - 128) + at0 l 2 - 128) + at0 l 3 - 128, 4, 0) := by
  have l1 := at0_lt hb 1
  have l2 := at0_lt hb 2
  have n128 : 128 ≤ nlo (at0 l 0) := by unfold nlo; (repeat' split) <;> omega
  by_cases c1 : l.length < 2
  · rw [if_pos c1]
    have := l0_short (k + 3) l (sz : Int) (v : Int) 1 (by omega) (by omega)
    exact this
  · rw [if_neg c1, l0_one hb (k + 3) (sz : Int) v (by omega) (by omega) hv]
    by_cases c2 : at0 l 1 < nlo (at0 l 0) ∨ nhi (at0 l 0) < at0 l 1
    · rw [if_pos c2, if_pos c2]
    · rw [if_neg c2, if_neg c2]
      by_cases c3 : sz = 2
      · rw [if_pos c3, l0_end (k + 2) _ _ _ _ (by omega), c3]; rfl
      · rw [if_neg c3]
        by_cases c4 : l.length < 3
        · rw [if_pos c4, l0_short (k + 2) _ _ _ _ (by omega) (by omega)]
        · rw [if_neg c4]
          have m2 := l0_more hb (k + 2) (sz : Int) (64 * (v : Int) + at0 l 1 - 128) 2 (by omega) (by omega) (by omega) (by omega) (by omega) (by omega)
          rw [show ((2 : Nat) : Int) = 2 from rfl] at m2
          rw [m2]
          by_cases c5 : at0 l 2 < 128 ∨ 191 < at0 l 2
          · rw [if_pos c5, if_pos c5]
          · rw [if_neg c5, if_neg c5]
            by_cases c6 : sz = 3
            · rw [if_pos c6, l0_end (k + 1) _ _ _ _ (by omega), c6]; rfl
            · rw [if_neg c6]
              by_cases c7 : l.length < 4
              · rw [if_pos c7, l0_short (k + 1) _ _ _ _ (by omega) (by omega)]; rfl
              · rw [if_neg c7]
                have m3 := l0_more hb (k + 1) (sz : Int) (64 * (64 * (v : Int) + at0 l 1 - 128) + at0 l 2 - 128) 3 (by omega) (by omega) (by omega) (by omega) (by omega) (by omega)
                rw [show ((3 : Nat) : Int) = 3 from rfl] at m3
                rw [show ((2 + 1 : Nat) : Int) = 3 from rfl, m3]
                by_cases c8 : at0 l 3 < 128 ∨ 191 < at0 l 3
                · rw [if_pos c8, if_pos c8]
                · rw [if_neg c8, if_neg c8, l0_end k _ _ _ _ (by omega), show sz = 4 by omega]; rfl

/-- The document's Next is nxL. -/
theorem ref_next {l : List Int} (hb : ∀ x ∈ l, 0 ≤ x ∧ x ≤ 255) (k : Nat) : whispererref01_Next.f (k + 7) l = some (((nxL l).1 : Int), ((nxL l).2.1 : Int), ((nxL l).2.2 : Int)) := by
  unfold whispererref01_Next.f nxL
  by_cases hl : l = []
  · subst hl
    rfl
  · have h1 : 1 ≤ l.length := List.length_pos_iff.2 hl
    have r0 := rd_at0 hb 0 h1
    rw [show ((0 : Nat) : Int) = 0 from rfl] at r0
    have b0 := at0_lt hb 0
    have b1 := at0_lt hb 1
    have b2 := at0_lt hb 2
    have b3 := at0_lt hb 3
    rw [if_neg (by omega), if_pos (by omega), if_neg hl, r0, size_eq (k + 5), Option.bind_some, wr64 (by omega) (by omega)]
    unfold szN nx
    generalize hc0 : at0 l 0 = c0 at *
    by_cases c1 : c0 < 128
    · rw [if_pos c1, if_pos c1, if_neg (by decide), if_pos (by decide)]; rfl
    rw [if_neg c1, if_neg c1]
    by_cases c2 : c0 < 194
    · rw [if_pos c2, if_pos (by decide), if_pos (.inl c2)]; rfl
    rw [if_neg c2]
    have q (sz v : Nat) (h2 : 2 ≤ sz) (h4 : sz ≤ 4) (hv : v < 32) := l0_core hb (k + 1) sz v h2 h4 hv h1
    rw [hc0] at q
    by_cases c3 : c0 < 224
    · rw [if_pos c3, if_neg (by decide), if_neg (by decide), if_neg (by decide), if_neg (by omega), if_pos c3]
      rw [whispererref01_Next.j0, if_neg (by decide), whispererref01_Next.j1, Int.tmod_eq_emod_of_nonneg (by omega), show ((c0 : Int) % 32) = ((c0 % 32 : Nat) : Int) by omega, q 2 (c0 % 32) (by omega) (by omega) (by omega)]
      rw [if_pos rfl]
      have : nlo c0 = 128 := by unfold nlo; rw [if_neg (by omega), if_neg (by omega)]
      have : nhi c0 = 191 := by unfold nhi; rw [if_neg (by omega), if_neg (by omega)]
      by_cases d1 : l.length < 2
      · rw [if_pos d1, if_pos d1]; rfl
      · rw [if_neg d1, if_neg d1]
        by_cases d2 : at0 l 1 < nlo c0 ∨ nhi c0 < at0 l 1
        · rw [if_pos d2, if_pos d2]; rfl
        · rw [if_neg d2, if_neg d2]
          refine congrArg some (Prod.ext ?_ rfl)
          show 64 * ((c0 % 32 : Nat) : Int) + at0 l 1 - 128 = ((c0 % 32 * 64 + at0 l 1 % 64 : Nat) : Int)
          omega
    have n128 : 128 ≤ nlo c0 ∧ nhi c0 ≤ 191 := by unfold nlo nhi; constructor <;> (repeat' split) <;> omega
    by_cases c4 : c0 < 240
    · rw [if_neg c3, if_pos c4, if_neg (by decide), if_neg (by decide), if_pos (by decide), if_neg (by omega), if_neg c3, if_pos c4]
      rw [whispererref01_Next.j0, if_neg (by decide), whispererref01_Next.j1, Int.tmod_eq_emod_of_nonneg (by omega), show ((c0 : Int) % 16) = ((c0 % 16 : Nat) : Int) by omega, q 3 (c0 % 16) (by omega) (by omega) (by omega)]
      rw [if_neg (show ¬ (3 : Nat) = 2 by decide), if_pos (show (3 : Nat) = 3 from rfl)]
      by_cases d1 : l.length < 2
      · rw [if_pos d1, if_pos d1]; rfl
      · rw [if_neg d1, if_neg d1]
        by_cases d2 : at0 l 1 < nlo c0 ∨ nhi c0 < at0 l 1
        · rw [if_pos d2, if_pos d2]; rfl
        · rw [if_neg d2, if_neg d2]
          by_cases d3 : l.length < 3
          · rw [if_pos d3, if_pos d3]; rfl
          · rw [if_neg d3, if_neg d3]
            by_cases d4 : at0 l 2 < 128 ∨ 191 < at0 l 2
            · rw [if_pos d4, if_pos d4]; rfl
            · rw [if_neg d4, if_neg d4]
              refine congrArg some (Prod.ext ?_ rfl)
              show 64 * (64 * ((c0 % 16 : Nat) : Int) + at0 l 1 - 128) + at0 l 2 - 128 = ((c0 % 16 * 4096 + at0 l 1 % 64 * 64 + at0 l 2 % 64 : Nat) : Int)
              omega
    by_cases c5 : c0 < 245
    · rw [if_neg c3, if_neg c4, if_pos c5, if_neg (by decide), if_neg (by decide), if_neg (by decide), if_neg (by omega), if_neg c3, if_neg c4]
      rw [whispererref01_Next.j0, if_pos (by decide), if_pos (by omega), r0, wr64 (by omega) (by omega), whispererref01_Next.j1, Int.tmod_eq_emod_of_nonneg (by omega), show ((c0 : Int) % 8) = ((c0 % 8 : Nat) : Int) by omega, q 4 (c0 % 8) (by omega) (by omega) (by omega)]
      rw [if_neg (show ¬ (4 : Nat) = 2 by decide), if_neg (show ¬ (4 : Nat) = 3 by decide)]
      by_cases d1 : l.length < 2
      · rw [if_pos d1, if_pos d1]; rfl
      · rw [if_neg d1, if_neg d1]
        by_cases d2 : at0 l 1 < nlo c0 ∨ nhi c0 < at0 l 1
        · rw [if_pos d2, if_pos d2]; rfl
        · rw [if_neg d2, if_neg d2]
          by_cases d3 : l.length < 3
          · rw [if_pos d3, if_pos d3]; rfl
          · rw [if_neg d3, if_neg d3]
            by_cases d4 : at0 l 2 < 128 ∨ 191 < at0 l 2
            · rw [if_pos d4, if_pos d4]; rfl
            · rw [if_neg d4, if_neg d4]
              by_cases d5 : l.length < 4
              · rw [if_pos d5, if_pos d5]; rfl
              · rw [if_neg d5, if_neg d5]
                by_cases d6 : at0 l 3 < 128 ∨ 191 < at0 l 3
                · rw [if_pos d6, if_pos d6]; rfl
                · rw [if_neg d6, if_neg d6]
                  refine congrArg some (Prod.ext ?_ rfl)
                  show 64 * (64 * (64 * ((c0 % 8 : Nat) : Int) + at0 l 1 - 128) + at0 l 2 - 128) + at0 l 3 - 128 = ((c0 % 8 * 262144 + at0 l 1 % 64 * 4096 + at0 l 2 % 64 * 64 + at0 l 3 % 64 : Nat) : Int)
                  omega
    · rw [if_neg c3, if_neg c4, if_neg c5, if_pos (by decide), if_pos (.inr (by omega))]; rfl

theorem ref_prn (c : Int) : whispererref01_Printable.f c = some (prn c) := by
  have e : ∀ b : Bool, (b = true ↔ prn c = true) → some b = some (prn c) := fun b h => congrArg some (Bool.eq_iff_iff.2 h)
  unfold whispererref01_Printable.f whispererref01_Fine.f
  repeat' split
  all_goals simp only [Option.bind_some]
  all_goals repeat' split
  all_goals first | (refine e _ ?_; simp [prn_iff]; omega) | (refine e _ ?_; simp_all [prn_iff] <;> omega)

theorem fine_more : ∀ (a b : Nat) (l : List Int), l.length ≤ a → a ≤ b → fineL a l = fineL b l
  | a, b, l, h, hab => by
    induction a using Nat.strongRecOn generalizing b l with
    | ind a ih =>
      by_cases hl : l = []
      · subst hl
        cases a <;> cases b <;> rfl
      · have h1 := List.length_pos_iff.2 hl
        obtain ⟨a, rfl⟩ : ∃ e, a = e + 1 := ⟨a - 1, by omega⟩
        obtain ⟨b, rfl⟩ : ∃ e, b = e + 1 := ⟨b - 1, by omega⟩
        have hle := nxL_le hl
        rw [fineL_succ, fineL_succ, if_neg hl, if_neg hl]
        split
        · exact ih a (by omega) b _ (by rw [List.length_drop]; omega) (by omega)
        · rfl
theorem ref_fine {l : List Int} (hb : ∀ x ∈ l, 0 ≤ x ∧ x ≤ 255) (hl : l.length ≤ 1000000) : ∀ (d i k : Nat), i + d = l.length → d ≤ k → whispererref11_Fine.l0 (k + 9) l (i : Int) = some (fineL d (l.drop i)) := by
  intro d
  induction d using Nat.strongRecOn with
  | ind d ih =>
    intro i k hi hk
    rw [whispererref11_Fine.l0]
    by_cases c1 : d = 0
    · subst c1
      rw [if_neg (by omega)]
      rfl
    · obtain ⟨d, rfl⟩ : ∃ e, d = e + 1 := ⟨d - 1, by omega⟩
      obtain ⟨k, rfl⟩ : ∃ e, k = e + 1 := ⟨k - 1, by omega⟩
      have hne : l.drop i ≠ [] := by
        intro h
        have := congrArg List.length h
        simp at this
        omega
      have hbd : ∀ x ∈ l.drop i, 0 ≤ x ∧ x ≤ 255 := fun x hx => hb x (List.mem_of_mem_drop hx)
      have hle := nxL_le hne
      rw [List.length_drop] at hle
      rw [if_pos (by omega), if_pos (by omega), if_pos (by omega), Int.toNat_natCast, show k + 1 + 8 = (k + 2) + 7 by omega, ref_next hbd, Option.bind_some, fineL_succ, if_neg hne]
      by_cases c2 : (nxL (l.drop i)).2.2 = 0
      · rw [if_pos (by simp only; omega), ref_prn, Option.bind_some]
        by_cases c3 : prn ((nxL (l.drop i)).1 : Int) = true
        · rw [if_pos c3, if_pos ⟨c2, c3⟩, wr64 (by simp only; omega) (by simp only; omega)]
          simp only
          rw [show (i : Int) + ((nxL (l.drop i)).2.1 : Int) = ((i + (nxL (l.drop i)).2.1 : Nat) : Int) by omega, show k + 2 + 7 = k + 9 by omega, ih (d + 1 - (nxL (l.drop i)).2.1) (by omega) _ k (by omega) (by omega), List.drop_drop]
          congr 1
          exact fine_more _ _ _ (by rw [List.length_drop]; omega) (by omega)
        · rw [if_neg c3, if_neg (fun h => c3 h.2)]
      · rw [if_neg (by simp only; omega), if_neg (fun h => c2 h.1)]

end Go.Proofs.YtoeaidhkohfaoaaDoor.Hand
