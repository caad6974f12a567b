/- EscseqBytes: what a key is told by, if that begins with ESC, is the sequence of that key. For every kind and every bytes behind, no condition. -/
import Derived.Test.YtjlfpkgnkgbhiaaPEscseqBytesx2
import Derived.Test.YtjlfpkgnkgbhiaaPlainEsc
import Derived.OpenShut
namespace Go.Proofs.Ytjlfpkgnkgbhiaa.Pure
open Go.RowKit Go.Proofs.Ytjlfpkgnkgbhiaa.PEscseqBytes Go.Proofs.Ytjlfpkgnkgbhiaa.Hand Go.Proofs.YtjlfpkgnkgbhiaaW.PrintWords Go.Proofs.YtjlfpkgnkgbhiaaW.PrintLast
set_option linter.unusedVariables false
set_option linter.unusedSimpArgs false

theorem alive_ok : Hand.whispererlaw09_alive.f = some true := rfl

theorem next_app (L t : List Int) (q m : Int) (h : nextL L = (q, 0, m, 0)) : nextL (L ++ t) = (q, 0, m, 0) := by
  rcases next_spec L with ⟨e, h1, _, h3, _⟩ | ⟨h1, _⟩ | ⟨q', m', h1, _, _, _, h5, _⟩
  · rw [h] at h1
    simp only [Prod.mk.injEq] at h1
    exact absurd h1.2.2.2.symm h3
  · rw [h] at h1
    simp only [Prod.mk.injEq] at h1
    exact absurd h1.2.2.2 (by decide)
  · rw [h] at h1
    rw [h5 t, ← h1]

/-- What a key of each kind is told by. -/
def told (n : Nat) : List Int × Int := if n = 0 then ([], 2) else (bytesOf n, 0)
theorem bytes_ok : ∀ n : Nat, n < 16 → keys_Bytes.f 20 (n : Int) 0 = some (told n) := by decide +kernel

theorem told_ok : ∀ n : Nat, n < 16 → (told n).1.length ≤ 10 ∧ ((told n).2 = 0 → (told n).1.length ≠ 0 → rd (told n).1 0 = 27 → nextL (told n).1 = ((n : Int), 0, ((told n).1.length : Int), 0)) := by
  have h : ∀ n : Nat, n < 16 → (told n).1.length ≤ 10 ∧ ((told n).2 ≠ 0 ∨ (told n).1.length = 0 ∨ rd (told n).1 0 ≠ 27 ∨ nextL (told n).1 = ((n : Int), 0, ((told n).1.length : Int), 0)) := by decide +kernel
  intro n hn
  refine ⟨(h n hn).1, fun a b c => ?_⟩
  rcases (h n hn).2 with d | d | d | d
  · exact absurd a d
  · exact absurd d b
  · exact absurd c d
  · exact d

theorem j0_true (k : Nat) (l b : List Int) (x y : Int) : whispererlaw09_EscseqBytes.j0 (k + 1) l b true x y = some true := by
  simp only [whispererlaw09_EscseqBytes.j0]
  rw [alive_ok]
  rfl

theorem j0_esc (k : Nat) (l b : List Int) (q : Int) (hb : b.length ≤ 10) (hn : nextL b = (q, 0, (b.length : Int), 0)) : whispererlaw09_EscseqBytes.j0 (k + 1) l b (decide ((l.length : Int) > 500)) q 0 = some true := by
  by_cases hl : (l.length : Int) > 500
  · rw [decide_eq_true hl]
    exact j0_true k l b q 0
  · rw [decide_eq_false hl]
    simp only [whispererlaw09_EscseqBytes.j0]
    rw [if_neg (by decide), alive_ok]
    simp only [Option.bind_some, List.nil_append]
    rw [if_pos (by simp; omega), if_pos (by omega)]
    unfold Hand.escseq_Next.f
    rw [next_app b l q _ hn]
    simp

theorem EscseqBytes : whispererlaw09_EscseqBytes.Pure := by
  intro a0 l h0 _ _ _
  refine ⟨20, ?_⟩
  have hw : 0 ≤ a0 ∧ a0 ≤ 255 := by have h := bounds_u8 h0; omega
  obtain ⟨n, hn⟩ : ∃ n : Nat, a0 = n := ⟨a0.toNat, by omega⟩
  subst hn
  have hm : wrap64 (Int.tmod (n : Int) 16) = ((n % 16 : Nat) : Int) := by
    rw [Int.tmod_eq_emod_of_nonneg (by omega)]
    unfold wrap64
    omega
  unfold whispererlaw09_EscseqBytes.f
  have hlt : n % 16 < 16 := Nat.mod_lt _ (by decide)
  rw [hm, bytes_ok (n % 16) hlt]
  obtain ⟨h1, h2⟩ := told_ok (n % 16) hlt
  generalize n % 16 = m at h1 h2 ⊢
  simp only [Option.bind_some]
  by_cases e0 : (told m).2 = 0
  · rw [if_pos e0]
    by_cases e1 : (told m).1.length = 0
    · rw [if_pos (by omega)]; exact j0_true 19 l _ _ _
    · rw [if_neg (by omega), if_pos (by omega)]
      by_cases e2 : rd (told m).1 0 = 27
      · rw [if_pos e2]; exact j0_esc 19 l _ _ h1 (h2 e0 e1 e2)
      · rw [if_neg e2]; exact j0_true 19 l _ _ _
  · rw [if_neg e0]; exact j0_true 19 l _ _ _

end Go.Proofs.Ytjlfpkgnkgbhiaa.Pure
