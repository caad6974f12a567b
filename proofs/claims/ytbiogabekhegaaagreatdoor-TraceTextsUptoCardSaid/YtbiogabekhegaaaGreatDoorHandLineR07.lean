/- The document's Line, of any kind. -/
import Derived.Test.YtbiogabekhegaaaGreatDoorHandRefLine
namespace Go.Proofs.YtbiogabekhegaaaGreatDoor.Hand
open Go.RowKit Go.Proofs.YtbiogabekhegaaaGreatDoorW.PrintWords Go.Proofs.YtbiogabekhegaaaGreatDoorW.PrintLast
open Go.Proofs.YtbiogabekhegaaaGreatDoor.PWritten (S27 S25 k27 z27 rd_T27 at_T27 k27_mk)
set_option linter.unusedVariables false
set_option linter.unusedSimpArgs false
set_option maxHeartbeats 4000000 in
set_option maxRecDepth 100000 in
theorem refLine_out (x : S27) (A : Option Addr) (c : Nat) (w : World) (hk : x.f0 < 0 ∨ 7 ≤ x.f0) :
    Calls Tryz.prog 12 #[.agg (effV x A c)] w fun e w' => e = .returned (.tuple #[.string (lineR x).1, .int .i64 (lineR x).2]) ∧ Below w.heap.size w w' := by
  have hr : lineR x = (⟨#[]⟩, 9) := by unfold lineR; rw [if_pos hk]
  rw [hr]
  have hb0 := Aside0.mk ((Below.refl _ w).alloc (Nat.le_refl _) (.cells (effV x A c) 27))
  clear hr
  obtain ⟨xk, ⟨xf, xm, xt⟩, xd, xn, xo⟩ := x
  simp only at hk
  by_cases h1 : xk < 0
  · clear hk
    go_enter Tryz.func12, Tryz.ntmps12
    go_wp2_with (fail)
    go_ret2
    exact ⟨rfl, hb0.out⟩
  · have h2 : (6 : Int) < xk := by omega
    clear hk
    go_enter Tryz.func12, Tryz.ntmps12
    go_wp2_with (fail)
    go_ret2
    exact ⟨rfl, hb0.out⟩
theorem refLine_ok (x : S27) (A : Option Addr) (c : Nat) (w : World) (hx : EffWr x) (hC : Kd.C (Kd.int .u8) w A x.f2.length x.f2) :
    Calls Tryz.prog 12 #[.agg (effV x A c)] w fun e w' => e = .returned (.tuple #[.string (lineR x).1, .int .i64 (lineR x).2]) ∧ Below w.heap.size w w' := by
  by_cases hk : x.f0 < 0 ∨ 7 ≤ x.f0
  · exact refLine_out x A c w hk
  · obtain h | h | h | h | h | h | h : x.f0 = ((0 : Nat) : Int) ∨ x.f0 = ((1 : Nat) : Int) ∨ x.f0 = ((2 : Nat) : Int) ∨ x.f0 = ((3 : Nat) : Int) ∨ x.f0 = ((4 : Nat) : Int) ∨ x.f0 = ((5 : Nat) : Int) ∨ x.f0 = ((6 : Nat) : Int) := by omega
    · exact refLine_0 x A c w h hx hC
    · exact refLine_1 x A c w h hx hC
    · exact refLine_2 x A c w h hx hC
    · exact refLine_3 x A c w h hx hC
    · exact refLine_4 x A c w h hx hC
    · exact refLine_5 x A c w h hx hC
    · exact refLine_6 x A c w h hx hC
end Go.Proofs.YtbiogabekhegaaaGreatDoor.Hand
