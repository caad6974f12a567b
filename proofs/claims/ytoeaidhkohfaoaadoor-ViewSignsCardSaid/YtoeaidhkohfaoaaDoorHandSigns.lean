/- ViewSigns: the bytes for a refusal, for pastes, and for a line's end; who changes them changes no others. -/
import Derived.Test.YtoeaidhkohfaoaaDoorHandTabOf13
import Derived.Test.YtoeaidhkohfaoaaDoorHandLit
import Derived.Lib.SlBytesConst
import Derived.Laws.Tables
import Derived.Deep.LoopGhost
namespace Go.Proofs.YtoeaidhkohfaoaaDoor.Hand
open Go.RowKit Go.Proofs.YtoeaidhkohfaoaaDoorW.PrintWords Go.Proofs.YtoeaidhkohfaoaaDoorW.PrintLast
set_option linter.unusedVariables false
set_option linter.unusedSimpArgs false

/-- A block that holds these bytes; its mark stands behind its last place. -/
def Held (w : World) (g : Nat) (xs : List Int) : Prop := w.heap[g]? = some (.cells (xs.map (Value.int .u8)).toArray 5 (xs.length, xs.length + 1))
def SignOk (f : Nat) (xs : List Int) (w : World) : Prop := Calls Tryd.prog f #[] w fun e w' => ∃ g, e = .returned (.slice (some ⟨g, 0, none⟩) xs.length xs.length) ∧ w.heap.size ≤ g ∧ g < w'.heap.size ∧ Held w' g xs ∧ Below w.heap.size w w'
set_option maxHeartbeats 1000000 in
set_option maxRecDepth 100000 in
theorem bell_ok (w : World) : SignOk 17 [7] w := by
  unfold SignOk
  have kc := Lib.run_convert_bytes_const (P := Tryd.prog) w 25 5 #[.int .u8 7] 1 1 Tryd.underlying25 Tryd.underlying5
  go_enter Tryd.func17, Tryd.ntmps17
  go_wp2_with (fail)
  go_ret
  exact ⟨w.heap.size, rfl, Nat.le_refl _, by simp, heap_alloc_new w _, (Below.refl w.heap.size w).alloc (Nat.le_refl _) _⟩
set_option maxHeartbeats 1000000 in
set_option maxRecDepth 100000 in
theorem start_ok (w : World) : SignOk 18 [27, 91, 63, 50, 48, 48, 52, 104] w := by
  unfold SignOk
  have kc := Lib.run_convert_bytes_const (P := Tryd.prog) w 25 5 #[.int .u8 27, .int .u8 91, .int .u8 63, .int .u8 50, .int .u8 48, .int .u8 48, .int .u8 52, .int .u8 104] 8 8 Tryd.underlying25 Tryd.underlying5
  go_enter Tryd.func18, Tryd.ntmps18
  go_wp2_with (fail)
  go_ret
  exact ⟨w.heap.size, rfl, Nat.le_refl _, by simp, heap_alloc_new w _, (Below.refl w.heap.size w).alloc (Nat.le_refl _) _⟩
set_option maxHeartbeats 1000000 in
set_option maxRecDepth 100000 in
theorem stop_ok (w : World) : SignOk 19 [27, 91, 63, 50, 48, 48, 52, 108] w := by
  unfold SignOk
  have kc := Lib.run_convert_bytes_const (P := Tryd.prog) w 25 5 #[.int .u8 27, .int .u8 91, .int .u8 63, .int .u8 50, .int .u8 48, .int .u8 48, .int .u8 52, .int .u8 108] 8 8 Tryd.underlying25 Tryd.underlying5
  go_enter Tryd.func19, Tryd.ntmps19
  go_wp2_with (fail)
  go_ret
  exact ⟨w.heap.size, rfl, Nat.le_refl _, by simp, heap_alloc_new w _, (Below.refl w.heap.size w).alloc (Nat.le_refl _) _⟩
set_option maxHeartbeats 1000000 in
set_option maxRecDepth 100000 in
theorem close_ok (w : World) : SignOk 20 [13, 10] w := by
  unfold SignOk
  have kc := Lib.run_convert_bytes_const (P := Tryd.prog) w 25 5 #[.int .u8 13, .int .u8 10] 2 2 Tryd.underlying25 Tryd.underlying5
  go_enter Tryd.func20, Tryd.ntmps20
  go_wp2_with (fail)
  go_ret
  exact ⟨w.heap.size, rfl, Nat.le_refl _, by simp, heap_alloc_new w _, (Below.refl w.heap.size w).alloc (Nat.le_refl _) _⟩

end Go.Proofs.YtoeaidhkohfaoaaDoor.Hand
