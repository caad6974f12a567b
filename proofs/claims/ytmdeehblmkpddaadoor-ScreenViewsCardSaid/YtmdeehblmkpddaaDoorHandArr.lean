/- A parameter that is an array of two whole numbers, opened. -/
import Derived.Lib.LaidTab
import Derived.Lib.SmallJoins
import Derived.WideShapes
import Derived.WalkKit
import Derived.Test.YtmdeehblmkpddaaDoorProg
namespace Go.Proofs.YtmdeehblmkpddaaDoor.Hand
open Go.ChangeShapes Go.WideShapes Go.RowKit
set_option linter.unusedVariables false

theorem okWide_arr {P : Program} {w : World} {r : Reach} {base : Nat} {t e : TypeId} {n : Nat} {v : Value} (ht : P.underlying t = some (.array n e)) (h : Value.okWide P w r base t v) : ∃ cs, v = .agg cs ∧ cs.size = P.cellsOf t := by
  simp only [Value.okWide, ht] at h
  obtain ⟨cs, h1, h2, _⟩ := h
  exact ⟨cs, h1, h2⟩
theorem open_arr2 {H : Type} {enc : TypeId × Value → H} {P : Program} {w : World} {base b0 : Nat} {spare : Nat → Bool} {held : Bool} {r : Reach} {t e : TypeId} {k : IntKind} {v : Value} {d : DataW H} {p : List MemPlace}
    (ht : P.underlying t = some (.array 2 e)) (he : P.underlying e = some (.int k)) (hce : P.cellsOf e = 1) (hct : P.cellsOf t = 2) (hv : Value.okWide P w r b0 t v) (h : DataW.Trod enc P w base spare held t v d p) :
    ∃ z0 z1 : Int, v = .agg #[.int k z0, .int k z1] ∧ (Lit.int k z0).wf = true ∧ (Lit.int k z1).wf = true := by
  obtain ⟨cs, rfl, hsz⟩ := okWide_arr ht hv
  obtain ⟨c0, c1, rfl⟩ := Joins.array2 (hsz.trans hct)
  obtain ⟨fuel, hf⟩ := h
  cases fuel with
  | zero => simp [DataW.trod] at hf
  | succ fuel =>
    simp only [DataW.trod, ht, hce] at hf
    split at hf
    · obtain ⟨xs, hm, hx⟩ := Option.map_eq_some_iff.1 hf
      obtain ⟨y0, _, h0⟩ := Lib.mapM_at hm 0 0 (by simp)
      obtain ⟨y1, _, h1⟩ := Lib.mapM_at hm 1 1 (by simp)
      obtain ⟨z0, e0, _, w0⟩ := DataW.trod_int he h0
      obtain ⟨z1, e1, _, w1⟩ := DataW.trod_int he h1
      simp [Value.cells] at e0 e1
      exact ⟨z0, z1, by rw [e0, e1], w0, w1⟩
    · cases hf

end Go.Proofs.YtmdeehblmkpddaaDoor.Hand
