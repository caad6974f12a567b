/- attrs.Names: a copy of the seven names. -/
import Derived.Test.YtgdbkgjnonodjaaDoorHandText06
namespace Go.Proofs.YtgdbkgjnonodjaaDoor.Hand
open Go.RowKit Go.Proofs.YtgdbkgjnonodjaaDoorW.PrintWords Go.Proofs.YtgdbkgjnonodjaaDoorW.PrintLast
set_option linter.unusedVariables false

def namesL : List ByteArray := nameL.map (fun l => ⟨l.toArray⟩)
set_option maxHeartbeats 2000000 in
set_option maxRecDepth 100000 in
theorem names_ok (w : World) (HT : TabT w) :
    Calls Tryd.prog 19 #[] w fun e w' => ∃ v', e = .returned v' ∧ w'.ownsRow w.heap.size 9 1 v' 7 (namesL.map Value.string) ∧ v' ≠ .slice none 0 0 ∧ Below w.heap.size w w' := by
  have hc : ∀ j, j < namesL.length → w.cell? ⟨0, 0 + j, none⟩ = some (.string (namesL.getD j ByteArray.empty)) := by
    intro j hj
    rw [Nat.zero_add]
    have hj' : j < 7 := hj
    refine (HT.nm j hj').trans ?_
    obtain rfl | rfl | rfl | rfl | rfl | rfl | rfl : j = 0 ∨ j = 1 ∨ j = 2 ∨ j = 3 ∨ j = 4 ∨ j = 5 ∨ j = 6 := by omega
    all_goals rfl
  go_enter Tryd.func19, Tryd.ntmps19
  go_wp2_with (fail)
  refine (Tryd.slices_Clone_string 0 0 7 7 namesL w (by decide) (by omega) hc).mono ?_
  rintro e w1 ⟨v, rfl, ho, hn, hb⟩
  go_wp2_with (fail)
  go_ret
  exact ⟨v, rfl, ho, hn, hb⟩

end Go.Proofs.YtgdbkgjnonodjaaDoor.Hand
