/- ScreenNone: of no screen nothing is told. -/
import Derived.Test.YtmdeehblmkpddaaDoorHandTabOf14
import Derived.Test.YtmdeehblmkpddaaDoorWSized
namespace Go.Proofs.YtmdeehblmkpddaaDoor.Hand
open Go.RowKit Go.Proofs.YtmdeehblmkpddaaDoorW.PrintWords Go.Proofs.YtmdeehblmkpddaaDoorW.PrintLast
set_option linter.unusedVariables false
set_option linter.unusedSimpArgs false
set_option maxHeartbeats 4000000 in
set_option maxRecDepth 100000 in
theorem ScreenNone_walk (a0 : Option Addr) (len0 cap0 : Nat) (z0 : List Int) (a1 : Int) {p q r : Prop} (w0 : p) (y0 : q) (w1 : r) (w : World) (HT : TabS w) :
    Calls Tryd.prog 6 #[.slice a0 len0 cap0, .int .i64 a1] w fun e w' => e = .returned (.bool true) ∧ Below w.heap.size w w' := by
  go_enter Tryd.func6, Tryd.ntmps6
  go_wp2_with (fail)
  refine (row_nil _ _).mono ?_
  rintro e w1 ⟨rfl, rfl⟩
  go_wp2_with (fail)
  refine (place_nil _).mono ?_
  rintro e w2 ⟨rfl, rfl⟩
  go_wp2_with (fail)
  refine (alive_ok _ HT.n HT.u).mono ?_
  rintro e w3 ⟨rfl, hb⟩
  have hB := Aside0.mk hb
  clear hb
  go_wp2_with (fail)
  refine (feed_nil _ _).mono ?_
  rintro e w4 ⟨rfl, rfl⟩
  go_wp2_with (fail)
  refine (rows_nil _).mono ?_
  rintro e w5 ⟨rfl, rfl⟩
  go_wp2_with (fail)
  refine (bells_nil _).mono ?_
  rintro e w6 ⟨rfl, rfl⟩
  go_wp2_with (fail)
  refine (pastes_nil _).mono ?_
  rintro e w7 ⟨rfl, rfl⟩
  go_wp2_with (fail)
  refine (odd_nil _).mono ?_
  rintro e w8 ⟨rfl, rfl⟩
  go_wp2_with (fail)
  go_ret
  exact ⟨rfl, hB.out⟩
end Go.Proofs.YtmdeehblmkpddaaDoor.Hand
