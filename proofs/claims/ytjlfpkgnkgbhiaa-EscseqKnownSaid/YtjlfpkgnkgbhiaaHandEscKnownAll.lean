/- The contract of escseq.Known: a new row of the fifteen sequences, in their order. -/
import Derived.Test.YtjlfpkgnkgbhiaaHandEscKnown
import Derived.Test.YtjlfpkgnkgbhiaaHandIter
import Derived.Test.YtjlfpkgnkgbhiaaWMore
namespace Go.Proofs.Ytjlfpkgnkgbhiaa.Hand
open Go.RowKit Go.Maps Go.Sort Go.Shelf Go.Proofs.YtjlfpkgnkgbhiaaW.PrintWords Go.Proofs.YtjlfpkgnkgbhiaaW.PrintLast
set_option linter.unusedVariables false
set_option linter.unusedSimpArgs false

/-- The fifteen, in the order of their bytes. -/
def knownB : List (List UInt8) := [[27, 79, 67], [27, 79, 68], [27, 79, 70], [27, 79, 72], [27, 91, 49, 126], [27, 91, 50, 48, 48, 126], [27, 91, 50, 48, 49, 126], [27, 91, 51, 126], [27, 91, 52, 126], [27, 91, 55, 126], [27, 91, 56, 126], [27, 91, 67], [27, 91, 68], [27, 91, 70], [27, 91, 72]]
def knownL : List ByteArray := knownB.map (fun l => ⟨l.toArray⟩)
def escseq_Known.f : Option (List ByteArray) := some knownL

theorem known_size : Maps.size (litMap seqLits) = 15 := by decide +kernel
theorem known_sorted (ss : List (List UInt8)) (h : ss.Perm (strKeys (litMap seqLits))) : ss.mergeSort (fun x y => decide (x ≤ y)) = knownB := by
  have hp : (strKeys (litMap seqLits)).Perm knownB := by decide +kernel
  refine (mergeSort_of_perm (h.trans hp)).trans ?_
  exact List.mergeSort_of_pairwise (by decide +kernel)

set_option maxHeartbeats 1000000 in
theorem escseq_Known.calls (r : List ByteArray) (w : World) (h : escseq_Known.f = some r) :
    Calls Try.prog 14 #[] w fun e w' => ∃ v0_ : Value, e = .returned v0_ ∧ Kd.R Kd.string 9 w' w.heap.size (fun _ => True) v0_ r ∧ Below w.heap.size w w' := by
  have hr := Option.some.inj h
  subst hr
  refine (callsIn_wide (n := 6)).1 ?_
  have hfK : Fence.wide.fn 23 := trivial
  have hfS : Fence.wide.fn 22 := trivial
  have hfW : Fence.wide.fn 17 := trivial
  refine callsIn_of_wp Try.func14 rfl trivial ?_ rfl
  simp only [Try.ntmps14, List.size_toArray, List.length_cons, List.length_nil, Nat.reduceAdd, Nat.reduceSub, Array.replicate_succ, Array.replicate_zero, List.push_toArray, List.append_toArray, List.nil_append, List.cons_append]
  gi_wp2_with (first
    | (gi_at_call 17; refine (callsIn_wide.2 (known_any _)).mono ?_; rintro e w1 ⟨rfl, hown, b1⟩)
    | (gi_at_call 23; refine (Try.maps_Keys_23 _ _).mono ?_; rintro e w2 ⟨rfl, rfl⟩)
    | (gi_at_call 22; refine (Try.slices_Sorted_keys_22_23 _ _ _ _ _ hown (by rw [known_size]; unfold maxLen; omega) (by rw [known_size]; omega)).mono ?_; rintro e w3 ⟨v, ss, rfl, hS, hrow, hnil, hb⟩))
  go_ret
  have hl : ss.length = 15 := by
    rw [hS.length_eq]
    decide +kernel
  rw [known_sorted ss hS, hl] at hrow
  have hle : w.heap.size ≤ (w1.alloc (.cells #[.map (some w.heap.size)] 41)).heap.size := by have := b1.size; simp; omega
  refine ⟨v, rfl, Kd.R_of_own (own_weaken hrow hle) (fun _ _ => trivial), (b1.alloc b1.size _).trans (hb.mono hle)⟩

end Go.Proofs.Ytjlfpkgnkgbhiaa.Hand
