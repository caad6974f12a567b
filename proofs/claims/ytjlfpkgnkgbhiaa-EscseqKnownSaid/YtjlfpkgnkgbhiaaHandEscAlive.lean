/- The contract of the law's 'alive': true. -/
import Derived.Test.YtjlfpkgnkgbhiaaHandLit
import Derived.Test.YtjlfpkgnkgbhiaaHandEscNextAll
namespace Go.Proofs.Ytjlfpkgnkgbhiaa.Hand
open Go.RowKit Go.Proofs.YtjlfpkgnkgbhiaaW.PrintWords Go.Proofs.YtjlfpkgnkgbhiaaW.PrintLast
set_option linter.unusedVariables false
set_option linter.unusedSimpArgs false

def whispererlaw09_alive.f : Option Bool := some true

set_option maxHeartbeats 1000000 in
set_option maxRecDepth 100000 in
theorem whispererlaw09_alive.calls (r : Bool) (w : World) (h : whispererlaw09_alive.f = some r) : Calls Try.prog 9 #[] w fun e w' => e = .returned (.bool r) ∧ Below w.heap.size w w' := by
  obtain rfl : true = r := Option.some.inj h
  have kc := fun (w : World) (C : Array Value) (n c : Nat) => Lib.run_convert_bytes_const (P := Try.prog) w 22 5 C n c Try.underlying22 Try.underlying5
  have kc2 : ∀ (w : World) (o : Obj) (C : Array Value) (n c : Nat), (convert 22 22 (.slice (some ⟨w.heap.size + 1, 0, none⟩) n c)).run Try.prog ((w.alloc o).alloc (.cells C 5)) = .ok (.slice (some ⟨w.heap.size + 1, 0, none⟩) n c) ((w.alloc o).alloc (.cells C 5 (C.size, C.size + 1))) := fun w o C n c => by
    have h := kc (w.alloc o) C n c
    rw [World.size_alloc] at h
    exact h
  have n1 := fun (A : Option Addr) (W : World) (hc : Kd.C (Kd.int .u8) W A 4 [27, 91, 51, 126]) => escseq_Next.calls A 4 [27, 91, 51, 126] 3 0 4 0 W hc (by decide) (by decide +kernel)
  have n2 := fun (A : Option Addr) (W : World) (hc : Kd.C (Kd.int .u8) W A 3 [27, 91, 51]) => escseq_Next.calls A 3 [27, 91, 51] 0 0 3 7 W hc (by decide) (by decide +kernel)
  have n3 := fun (A : Option Addr) (W : World) (hc : Kd.C (Kd.int .u8) W A 4 [27, 91, 51, 10]) => escseq_Next.calls A 4 [27, 91, 51, 10] 15 0 3 0 W hc (by decide) (by decide +kernel)
  have N1 := Lib.hid n1
  have N2 := Lib.hid n2
  have N3 := Lib.hid n3
  clear n1 n2 n3
  go_enter Try.func9, Try.ntmps9
  go_wp2_with (fail)
  refine (N1.out _ _ (by exact lit_reads _ [27, 91, 51, 126] _ _ (by decide))).mono ?_
  rintro e w1 ⟨rfl, b1⟩
  have B1 := Lib.hid b1
  clear b1
  go_wp2_with (fail)
  refine (N2.out _ _ (by have q := lit_reads (w1.alloc (.cells #[.int .i64 3, .int .i64 0] 25)) [27, 91, 51] 5 (3, 4) (by decide); rw [World.size_alloc] at q; exact q)).mono ?_
  rintro e w2 ⟨rfl, b2⟩
  have g1 : w2.cell? ⟨w1.heap.size, 0, none⟩ = some (.int .i64 3) := (b2.cell (p := ⟨w1.heap.size, 0, none⟩) (by first | (simp; done) | (simp; omega))).trans (by simp [go_sem])
  have s2 : w1.heap.size < w2.heap.size := World.block_lt_of_cell? w2 _ g1
  have B2 := Lib.hid b2
  clear b2
  go_wp2_with (fail)
  refine (N3.out _ _ (by have q := lit_reads (w2.alloc (.cells #[.int .i64 0, .int .i64 0] 25)) [27, 91, 51, 10] 5 (4, 5) (by decide); rw [World.size_alloc] at q; exact q)).mono ?_
  rintro e w3 ⟨rfl, b3⟩
  have g2 : w3.cell? ⟨w1.heap.size, 0, none⟩ = some (.int .i64 3) := (b3.cell (p := ⟨w1.heap.size, 0, none⟩) (by first | (simp; done) | (simp; omega))).trans (pw_cell_below (((Below.refl w2.heap.size w2).alloc (Nat.le_refl _) _).alloc (by simp) _) g1)
  have s3 : w1.heap.size < w3.heap.size := World.block_lt_of_cell? w3 _ g2
  have B3 := Lib.hid b3
  clear b3 g1
  go_wp2_with (fail)
  go_ret
  refine ⟨rfl, ?_⟩
  have z1 : Below w.heap.size w w1 := ((Below.refl w.heap.size w).alloc (Nat.le_refl _) _).trans (B1.out.mono (by simp))
  have z2 : Below w.heap.size w w2 := ((z1.alloc z1.size _).alloc (by have := z1.size; simp; omega) _).trans (B2.out.mono (by have := z1.size; simp; omega))
  have z3 : Below w.heap.size w w3 := ((z2.alloc z2.size _).alloc (by have := z2.size; simp; omega) _).trans (B3.out.mono (by have := z2.size; simp; omega))
  exact z3.alloc z3.size _

end Go.Proofs.Ytjlfpkgnkgbhiaa.Hand
