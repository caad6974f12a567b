/- trace.kinds: a table of function values. -/
import Derived.Test.YtbiogabekhegaaaGreatDoorWMore
import Derived.Test.YtbiogabekhegaaaGreatDoorProg
import Derived.BigQuiet
import Derived.Deep.QuietTactic
import Derived.Laws.Tables
import Derived.Laws.CopyOwn
import Derived.Deep.MidRow
namespace Go.Proofs.YtbiogabekhegaaaGreatDoor.Hand
open Go.RowKit Go.Proofs.YtbiogabekhegaaaGreatDoorW.PrintWords Go.Proofs.YtbiogabekhegaaaGreatDoorW.PrintLast
set_option linter.unusedVariables false
set_option linter.unusedSimpArgs false

abbrev kfn (k : Nat) : Value := .func (.func k) #[] #[]
abbrev kfn1 (k b : Nat) : Value := .func (.func k) #[] #[.pointer (some ⟨b, 0, none⟩)]
def kindsA (b : Nat) : Array Value :=
  #[.string ⟨#[103, 111, 116]⟩, .bool true, .int .i64 3, .func (.func 40) #[] #[], .func (.func 42) #[] #[],
    .string ⟨#[119, 97, 115]⟩, .bool true, .int .i64 3, .func (.func 40) #[] #[], .func (.func 42) #[] #[],
    .string ⟨#[119, 114, 111, 116, 101]⟩, .bool true, .int .i64 2, .func (.func 49) #[] #[.pointer (some ⟨b, 0, none⟩)], .func (.func 51) #[] #[.pointer (some ⟨b + 1, 0, none⟩)],
    .string ⟨#[114, 101, 97, 100]⟩, .bool true, .int .i64 1, .func (.func 45) #[] #[], .func (.func 47) #[] #[],
    .string ⟨#[115, 105, 103, 110, 97, 108]⟩, .bool false, .int .i64 1, .func (.func 45) #[] #[], .func (.func 47) #[] #[],
    .string ⟨#[101, 110, 100]⟩, .bool false, .int .i64 0, .func (.func 53) #[] #[], .func (.func 54) #[] #[],
    .string ⟨#[104, 105, 115, 116, 111, 114, 121]⟩, .bool false, .int .i64 0, .func (.func 53) #[] #[], .func (.func 54) #[] #[]]
theorem kinds_one (b : Nat) : (kindsA b).all (·.oneCell') = true := by
  kernel_rfl
def zerosK : Array Value := #[.string ⟨#[]⟩, .bool false, .int .i64 0, .nilFunc, .nilFunc, .string ⟨#[]⟩, .bool false, .int .i64 0, .nilFunc, .nilFunc, .string ⟨#[]⟩, .bool false, .int .i64 0, .nilFunc, .nilFunc, .string ⟨#[]⟩, .bool false, .int .i64 0, .nilFunc, .nilFunc, .string ⟨#[]⟩, .bool false, .int .i64 0, .nilFunc, .nilFunc, .string ⟨#[]⟩, .bool false, .int .i64 0, .nilFunc, .nilFunc, .string ⟨#[]⟩, .bool false, .int .i64 0, .nilFunc, .nilFunc]
theorem store_new {P : Program} (w : World) (cs : Array Value) (t : TypeId) (i : Nat) (v : Value) (hv : v.oneCell' = true) (hi : i < cs.size) :
    (store ⟨w.heap.size, i, none⟩ v).run P (w.alloc (.cells cs t)) = .ok () (w.alloc (.cells (cs.setIfInBounds i v) t)) := by
  have hA : (w.alloc (.cells cs t)).heap[w.heap.size]? = some (.cells cs t (0, 0)) := heap_alloc_new w _
  have hc : (w.alloc (.cells cs t)).cell? ⟨w.heap.size, i, none⟩ = some cs[i] := (blk_cell hA i).trans (Array.getElem?_eq_getElem hi)
  rw [run_store _ _ _ _ _ hv, hc]
  have hs : (w.alloc (.cells cs t)).setCell ⟨w.heap.size, i, none⟩ v = w.alloc (.cells (cs.setIfInBounds i v) t) := by
    unfold World.setCell World.alloc
    simp only [World.mk.injEq, true_and, and_true]
    apply Array.ext
    · simp
    · intro j h1 h2
      simp only [Array.getElem_modify, Array.getElem_push]
      by_cases e : j < w.heap.size
      · rw [if_neg (by omega)]
        simp [e]
      · have : w.heap.size = j := by simp at h1; omega
        subst this
        simp
  simp [blk_frozen hA i, hs]
set_option maxHeartbeats 4000000 in
set_option maxRecDepth 100000 in
theorem kinds_ok (w : World) : Calls Tryz.prog 24 #[] w fun e w' => e = .returned (.agg (kindsA (w.heap.size + 1))) ∧ w'.heap[w.heap.size + 1]? = some (.cells #[.func (.func 45) #[] #[]] 55 (0, 0)) ∧ w'.heap[w.heap.size + 2]? = some (.cells #[.func (.func 47) #[] #[]] 56 (0, 0)) ∧ Below w.heap.size w w' := by
  have hmf : ∀ (fn : Fn) (first cap : Array Value) (w : World), (Instr.makeFunc fn first cap).run Tryz.prog w = .ok (.func fn first cap) w := fun _ _ _ _ => rfl
  have p1 := store_new (P := Tryz.prog) (w.alloc (.cells zerosK 59)) #[.nilFunc] 55 0 (.func (.func 45) #[] #[]) rfl (by decide)
  have p2 := store_new (P := Tryz.prog) ((w.alloc (.cells zerosK 59)).alloc (.cells #[.func (.func 45) #[] #[]] 55)) #[.nilFunc] 56 0 (.func (.func 47) #[] #[]) rfl (by decide)
  have hA : (((w.alloc (.cells zerosK 59)).alloc (.cells #[.func (.func 45) #[] #[]] 55)).alloc (.cells #[.func (.func 47) #[] #[]] 56)).heap[w.heap.size]? = some (.cells zerosK 59 (0, 0)) := (heap_alloc_old _ _ (by simp; omega)).trans ((heap_alloc_old _ _ (by simp)).trans (heap_alloc_new w _))
  have hB := heap_alloc_new (w.alloc (.cells zerosK 59)) (.cells #[.func (.func 45) #[] #[]] 55)
  have hC := heap_alloc_new ((w.alloc (.cells zerosK 59)).alloc (.cells #[.func (.func 45) #[] #[]] 55)) (.cells #[.func (.func 47) #[] #[]] 56)
  have hB2 := (heap_alloc_old ((w.alloc (.cells zerosK 59)).alloc (.cells #[.func (.func 45) #[] #[]] 55)) (.cells #[.func (.func 47) #[] #[]] 56) (by simp)).trans hB
  have hl : Below w.heap.size w (((w.alloc (.cells zerosK 59)).alloc (.cells #[.func (.func 45) #[] #[]] 55)).alloc (.cells #[.func (.func 47) #[] #[]] 56)) := (((Below.refl _ w).alloc (Nat.le_refl _) _).alloc (by simp) _).alloc (by simp; omega) _
  have z1 : (w.alloc (.cells zerosK 59)).heap.size = w.heap.size + 1 := by simp
  have z2 : ((w.alloc (.cells zerosK 59)).alloc (.cells #[.func (.func 45) #[] #[]] 55)).heap.size = w.heap.size + 1 + 1 := by simp
  rw [z1] at p1 hB hB2
  rw [z2] at p2 hC
  have c1 := (blk_cell hB2 0).trans rfl
  have c2 := (blk_cell hC 0).trans rfl
  simp only [List.setIfInBounds_toArray, List.set_cons_zero] at p1 p2
  go_enter Tryz.func24, Tryz.ntmps24
  unfold zerosK at p1 p2 c1 c2 hA hB2 hC hl
  clear hB z1 z2
  have hAA := Aside0.mk hA
  have hBA := Aside0.mk hB2
  have hCA := Aside0.mk hC
  have hLA := Aside0.mk hl
  clear hA hB2 hC hl c1 c2
  go_upto_region 9 with (fail)
  clear p1 p2
  have hA := hAA.out
  have hB := hBA.out
  have hC := hCA.out
  have hL := hLA.out
  clear hAA hBA hCA hLA
  generalize ((w.alloc (.cells _ 59)).alloc (.cells _ 55)).alloc (.cells _ 56) = W at *
  obtain ⟨Z, hz, hA⟩ : ∃ Z : Array Value, Z.size = 35 ∧ W.heap[w.heap.size]? = some (.cells Z 59 (0, 0)) := ⟨_, rfl, hA⟩
  have c1 := (blk_cell hB 0).trans rfl
  have c2 := (blk_cell hC 0).trans rfl
  have hAA := Aside0.mk hA
  have hBA := Aside0.mk hB
  have hCA := Aside0.mk hC
  have hLA := Aside0.mk hL
  clear hA hB hC hL
  go_wp2_with (refine gate_ (.store 59 (.tmp 0) (.tmp 32)) rfl ?roundEnd)
  refine wpList_store_row rfl 59 (.tmp 0) (.tmp 32) rfl w.heap.size (kindsA (w.heap.size + 1)) rfl ?_ 59 Z hAA.out (by kernel_rfl) (hz.trans rfl) (kinds_one _) ?_
  · rfl
  go_wp2_with (fail)
  refine bodyPost_ret (results_cell_row rfl _ _ w.heap.size 59 _ (0, 0) _ rfl (setRow_heap _ _ _ _ _ _ hAA.out) Tryz.underlying59 rfl (by kernel_rfl)) rfl ?_
  refine ⟨rfl, (setRow_other _ _ _ _ (by omega)).trans hBA.out, (setRow_other _ _ _ _ (by omega)).trans hCA.out, below_setRow hLA.out (Nat.le_refl _) _⟩
end Go.Proofs.YtbiogabekhegaaaGreatDoor.Hand
