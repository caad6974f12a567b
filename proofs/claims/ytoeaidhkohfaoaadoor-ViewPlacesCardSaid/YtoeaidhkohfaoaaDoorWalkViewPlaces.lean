/- ViewPlaces: the place is among the stars; in the mode Mask each character more is a star more, and each step one. -/
import Derived.Test.YtoeaidhkohfaoaaDoorPViewPlacesx1
namespace Go.Proofs.YtoeaidhkohfaoaaDoor.Pure
open Go.RowKit Go.Proofs.YtoeaidhkohfaoaaDoor.PViewPlaces Go.Proofs.YtoeaidhkohfaoaaDoor.Hand Go.Proofs.YtoeaidhkohfaoaaDoorW.PrintWords Go.Proofs.YtoeaidhkohfaoaaDoorW.PrintLast
set_option linter.unusedVariables false
set_option linter.unusedSimpArgs false

theorem alive_of (k : Nat) : whispererlaw13_alive.f k = some true := by
  unfold whispererlaw13_alive.f view_Render.f
  have h1 : checkI (⟨#[112, 119, 58, 32]⟩ : ByteArray) 1 0 = 0 := by decide +kernel
  have h2 : checkI (⟨#[112, 119, 58, 32]⟩ : ByteArray) 2 0 = 0 := by decide +kernel
  have h3 : rightB 1 3 1 = true := by decide +kernel
  have h4 : rightB 2 3 1 = true := by decide +kernel
  have h5 : (strOfNums (renderL (⟨#[112, 119, 58, 32]⟩ : ByteArray) 1 3 1)).toList = ([13, 112, 119, 58, 32, 42, 42, 42, 27, 91, 75, 27, 91, 50, 68] : List UInt8) := by decide +kernel
  have h6 : (strOfNums (renderL (⟨#[112, 119, 58, 32]⟩ : ByteArray) 2 3 1)).toList = ([13, 112, 119, 58, 32, 42, 42, 42, 42, 42, 42, 42, 42, 27, 91, 75] : List UInt8) := by decide +kernel
  have hs : (⟨#[112, 119, 58, 32]⟩ : ByteArray).size ≤ 9223372036854775807 := by decide
  rw [if_pos hs, if_pos hs, h1, h2, h3, h4]
  simp [h5, h6]

theorem rightB_eq (m c a : Int) : rightB m c a = true ↔ 0 ≤ m ∧ m < 3 ∧ 0 ≤ a ∧ a ≤ c ∧ c ≤ 1024 := by
  unfold rightB
  simp only [Bool.and_eq_true, decide_eq_true_eq]
  omega
theorem stars_out {m c : Int} (h : ¬ (0 ≤ m ∧ m < 3 ∧ 0 ≤ c ∧ c ≤ 1024)) : starsI m c = 0 := by
  unfold starsI
  rw [if_neg]
  rw [rightB_eq]
  omega
theorem places_j1 (k : Nat) (n m : Int) (h0 : 0 ≤ n) (h1 : n ≤ 1024) : whispererlaw13_ViewPlaces.j1 (k + 1) n m false = some true := by
  have e1 : starsI 3 n = 0 := stars_out (by omega)
  have e2 : starsI (-1) n = 0 := stars_out (by omega)
  have e3 : starsI m 1025 = 0 := stars_out (by omega)
  have e4 : placeI m n (wrap64 (n + 1)) = 0 := by
    unfold placeI
    rw [if_neg]
    rw [rightB_eq]
    unfold wrap64
    omega
  rw [whispererlaw13_ViewPlaces.j1]
  unfold view_Stars.f view_Place.f
  rw [alive_of, e1, e2, e3, e4]
  rfl
theorem places_j0 (k : Nat) (n p m s x : Int) (h0 : 0 ≤ n) (h1 : n ≤ 1024) (hp : 0 ≤ p ∧ p ≤ n) (hm : 0 ≤ m ∧ m < 3) (hs : s = starsI m n) (hx : x = placeI m n p) : whispererlaw13_ViewPlaces.j0 (k + 2) n p m s x false = some true := by
  have r1 : rightB m n 0 = true := (rightB_eq _ _ _).2 (by omega)
  have r2 : rightB m n p = true := (rightB_eq _ _ _).2 (by omega)
  unfold starsI at hs
  unfold placeI at hx
  rw [if_pos r1] at hs
  rw [if_pos r2] at hx
  have j := places_j1 k n m h0 h1
  have j0 : whispererlaw13_ViewPlaces.j1 (k + 1) n m (s != 0) = if s = 0 then some true else whispererlaw13_ViewPlaces.j1 (k + 1) n m true := by
    by_cases e : s = 0
    · rw [if_pos e, e]
      exact j
    · rw [if_neg e]
      congr 1
      simpa using e
  rw [whispererlaw13_ViewPlaces.j0]
  rw [if_neg (by decide), j0, j]
  obtain rfl | rfl | rfl : m = 0 ∨ m = 1 ∨ m = 2 := by omega
  · rw [if_pos rfl] at hs
    rw [if_neg (by decide), if_pos rfl, if_pos hs]
  · rw [if_neg (by decide), if_pos rfl] at hs hx
    rw [if_pos rfl, if_pos hs, if_pos hx, if_neg (by decide)]
  · rw [if_neg (by decide), if_neg (by decide)]
theorem ViewPlaces (a0 a1 a2 : Int) (w0 : (Lit.int .u8 a0).wf = true) (w1 : (Lit.int .u16 a1).wf = true) (w2 : (Lit.int .u16 a2).wf = true) : whispererlaw13_ViewPlaces.f 5 a0 a1 a2 = some true := by
  have b0 : 0 ≤ a0 ∧ a0 ≤ 255 := by
    have : (decide (IntKind.u8.min ≤ a0) && decide (a0 ≤ IntKind.u8.max)) = true := w0
    rw [show IntKind.u8.min = 0 by decide, show IntKind.u8.max = 255 by decide] at this
    simpa using this
  have b1 : 0 ≤ a1 ∧ a1 ≤ 65535 := by
    have : (decide (IntKind.u16.min ≤ a1) && decide (a1 ≤ IntKind.u16.max)) = true := w1
    rw [show IntKind.u16.min = 0 by decide, show IntKind.u16.max = 65535 by decide] at this
    simpa using this
  have b2 : 0 ≤ a2 ∧ a2 ≤ 65535 := by
    have : (decide (IntKind.u16.min ≤ a2) && decide (a2 ≤ IntKind.u16.max)) = true := w2
    rw [show IntKind.u16.min = 0 by decide, show IntKind.u16.max = 65535 by decide] at this
    simpa using this
  have e1 : wrap64 a1 = a1 := by unfold wrap64; omega
  have e2 : wrap64 a2 = a2 := by unfold wrap64; omega
  have t1 : Int.tmod a1 1025 = a1 % 1025 := Int.tmod_eq_emod_of_nonneg b1.1
  have t0 : Int.tmod a0 3 = a0 % 3 := Int.tmod_eq_emod_of_nonneg b0.1
  have w1' : wrap64 (a1 % 1025 + 1) = a1 % 1025 + 1 := by unfold wrap64; omega
  have t2 : Int.tmod a2 (a1 % 1025 + 1) = a2 % (a1 % 1025 + 1) := Int.tmod_eq_emod_of_nonneg b2.1
  have w0' : wrap64 (a0 % 3) = a0 % 3 := by unfold wrap64; omega
  have hn : 0 ≤ a1 % 1025 ∧ a1 % 1025 ≤ 1024 := by omega
  have hp : 0 ≤ a2 % (a1 % 1025 + 1) ∧ a2 % (a1 % 1025 + 1) ≤ a1 % 1025 := by
    have h1 := Int.emod_nonneg a2 (show a1 % 1025 + 1 ≠ 0 by omega)
    have h2 := Int.emod_lt_of_pos a2 (show 0 < a1 % 1025 + 1 by omega)
    omega
  have hm : 0 ≤ a0 % 3 ∧ a0 % 3 < 3 := by omega
  unfold whispererlaw13_ViewPlaces.f
  rw [e1, e2, t1, t0, w1', t2, w0']
  generalize a1 % 1025 = n at *
  generalize a2 % (n + 1) = p at *
  generalize a0 % 3 = m at *
  unfold view_Stars.f view_Place.f
  rw [if_neg (by omega), Option.bind_some, Option.bind_some]
  have j := places_j0 3 n p m (starsI m n) (placeI m n p) hn.1 hn.2 hp hm rfl rfl
  have r1 : rightB m n 0 = true := (rightB_eq _ _ _).2 (by omega)
  have r2 : rightB m n p = true := (rightB_eq _ _ _).2 (by omega)
  have hs : starsI m n = if m = 0 then 0 else if m = 1 then n else if n = 0 then 0 else 8 := by unfold starsI; rw [if_pos r1]
  have hx : placeI m n p = if m = 0 then 0 else if m = 1 then p else if n = 0 then 0 else 8 := by unfold placeI; rw [if_pos r2]
  generalize starsI m n = s at *
  generalize placeI m n p = x at *
  have hb : 0 ≤ x ∧ x ≤ s ∧ (s > n → s = 8 ∧ n ≠ 0) ∧ (n = 0 → s = 0) := by
    split at hs
    · rw [if_pos (by assumption)] at hx
      omega
    · rename_i g
      rw [if_neg g] at hx
      split at hs
      · rw [if_pos (by assumption)] at hx
        omega
      · rename_i g2
        rw [if_neg g2] at hx
        split at hs
        · rw [if_pos (by assumption)] at hx
          omega
        · rw [if_neg (by assumption)] at hx
          omega
  rw [if_neg (by omega), if_neg (by omega)]
  by_cases c : s > n
  · rw [if_pos c, if_pos (hb.2.2.1 c).1, if_neg (hb.2.2.1 c).2]
    exact j
  · rw [if_neg c]
    by_cases c2 : n = 0
    · rw [if_pos c2, hb.2.2.2 c2]
      rw [hb.2.2.2 c2] at j
      exact j
    · rw [if_neg c2]
      exact j

end Go.Proofs.YtoeaidhkohfaoaaDoor.Pure
namespace Go.Proofs.YtoeaidhkohfaoaaDoor.Hand
open Go.RowKit
set_option linter.unusedVariables false
theorem ViewPlaces_walk (a0 a1 a2 : Int) (w0 : (Lit.int .u8 a0).wf = true) (w1 : (Lit.int .u16 a1).wf = true) (w2 : (Lit.int .u16 a2).wf = true) (w : World) (HT : TabV w) :
    Calls Tryd.prog 5 #[.int .u8 a0, .int .u16 a1, .int .u16 a2] w fun e w' => e = .returned (.bool true) ∧ Below w.heap.size w w' :=
  PViewPlaces.whispererlaw13_ViewPlaces.calls 5 a0 a1 a2 true w HT (Pure.ViewPlaces a0 a1 a2 w0 w1 w2)
end Go.Proofs.YtoeaidhkohfaoaaDoor.Hand
