/- EscseqBehind: what stands behind a sequence plays no part in escseq.Next's answer; what it has, alone, tells it or is a beginning. For every two slices of bytes, no condition. -/
import Derived.Test.YtjlfpkgnkgbhiaaPEscseqBehindx2
import Derived.Test.YtjlfpkgnkgbhiaaPlainEsc
namespace Go.Proofs.Ytjlfpkgnkgbhiaa.Pure
open Go.RowKit Go.Proofs.Ytjlfpkgnkgbhiaa.PEscseqBehind Go.Proofs.Ytjlfpkgnkgbhiaa.Hand Go.Proofs.YtjlfpkgnkgbhiaaW.PrintWords Go.Proofs.YtjlfpkgnkgbhiaaW.PrintLast
set_option linter.unusedVariables false
set_option linter.unusedSimpArgs false

theorem alive_ok : Hand.whispererlaw09_alive.f = some true := rfl

theorem j2_ok (l : List Int) (m k : Nat) (q : Int) (hm : m ≤ l.length) (h : (nextL (l.take m) = (0, 0, (m : Int), 7) ∧ q = 15) ∨ nextL (l.take m) = (q, 0, (m : Int), 0)) :
    whispererlaw09_EscseqBehind.j2 (k + 1) l m false q 0 = some true := by
  simp only [whispererlaw09_EscseqBehind.j2]
  rw [if_neg (by decide), if_pos (by omega), if_pos (by omega), alive_ok, show ((m : Int)).toNat = m from by omega]
  unfold Hand.escseq_Next.f
  rcases h with ⟨h, rfl⟩ | h
  · rw [h]; simp
  · rw [h]; simp

theorem j0_ok (l t : List Int) (k : Nat) (b : Bool) (hl : b = false → l.length ≤ 500 ∧ t.length ≤ 500) : whispererlaw09_EscseqBehind.j0 (k + 3) l t b = some true := by
  simp only [whispererlaw09_EscseqBehind.j0]
  rw [alive_ok]
  cases b with
  | true => rfl
  | false =>
    obtain ⟨hl1, hl2⟩ := hl rfl
    rw [if_neg (by decide)]
    unfold Hand.escseq_Next.f
    rcases next_spec l with ⟨e, h1, h2, h3, h4⟩ | ⟨h1, h2⟩ | ⟨q, m, h1, h2, h3, h4, h5, h6⟩
    · rw [h1]
      simp only [Option.bind_some, h2, h3, if_false]
      by_cases hz : l.length = 0
      · rw [if_pos trivial, if_pos trivial, if_pos (by omega)]
      · rw [if_pos trivial, if_pos trivial, if_neg (by omega), if_pos (by omega)]
        have hr : rd l 0 ≠ 27 := fun h => by
          rcases h4 with h4 | h4
          · exact hz h4
          · exact h4 h
        simp [hr]
    · rw [h1]
      simp only [Option.bind_some, if_true]
      rw [if_pos (by omega)]
      rfl
    · rw [h1]
      simp only [Option.bind_some]
      rw [if_neg (by decide), if_pos trivial, if_neg (by omega), if_neg (by omega)]
      have hd : decide ((m : Int) > 35) = false := decide_eq_false (by omega)
      rw [hd]
      simp only [whispererlaw09_EscseqBehind.j1]
      rw [if_neg (by decide)]
      simp only [Option.bind_some, List.nil_append]
      rw [if_pos (by simp; omega), if_pos (by omega)]
      unfold Hand.escseq_Next.f
      rw [h5 t]
      simp only [Option.bind_some]
      rw [if_pos trivial, if_neg (by simp)]
      have hb : ((m : Int) != (m : Int)) = false := by simp
      rw [hb]
      exact j2_ok l m k q h3 h6

theorem EscseqBehind : whispererlaw09_EscseqBehind.Pure := by
  intro l t _ _ _ _ _ _
  refine ⟨3, ?_⟩
  unfold whispererlaw09_EscseqBehind.f
  by_cases h : (l.length : Int) > 500
  · rw [if_pos h]
    exact j0_ok l t 0 true (fun h => by cases h)
  · rw [if_neg h]
    refine j0_ok l t 0 _ (fun hb => ?_)
    have := of_decide_eq_false hb
    omega

end Go.Proofs.Ytjlfpkgnkgbhiaa.Pure
