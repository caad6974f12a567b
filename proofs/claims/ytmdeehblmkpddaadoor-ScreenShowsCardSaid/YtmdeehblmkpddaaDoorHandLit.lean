/- What '[]byte("..")' lays reads as its bytes. -/
import Derived.Test.YtmdeehblmkpddaaDoorWMore
import Derived.Lib.SlBytesConst
namespace Go.Proofs.YtmdeehblmkpddaaDoor.Hand
open Go.RowKit Go.Proofs.YtmdeehblmkpddaaDoorW.PrintWords Go.Proofs.YtmdeehblmkpddaaDoorW.PrintLast
set_option linter.unusedVariables false
set_option linter.unusedSimpArgs false

theorem lit_reads (W : World) (xs : List Int) (e : TypeId) (fr : Nat × Nat) (hm : xs.length ≤ 9223372036854775807) :
    Kd.C (Kd.int .u8) (W.alloc (.cells (xs.map (Value.int .u8)).toArray e fr)) (some ⟨W.heap.size, 0, none⟩) xs.length xs := by
  refine Kd.C_of_reads (d := (0 : Int)) ⟨rfl, hm, fun _ => ⟨_, rfl, fun j hj => ?_⟩⟩
  rw [add_plain]
  have hc : (W.alloc (.cells (xs.map (Value.int .u8)).toArray e fr)).cell? ⟨W.heap.size, j, none⟩ = (xs.map (Value.int .u8)).toArray[j]? := by
    exact cell_of_row _ W.heap.size j _ e fr (heap_alloc_new W _)
  rw [hc]
  simp [List.getElem?_eq_getElem hj, List.getD_eq_getElem?_getD]

/-- A string made of what is shared. -/
theorem own_stringV {P : Program} {w : World} {base : Nat} {ok : Nat → Prop} {E src dst e : TypeId} {v : Value} {xs : List Int} (hs : P.underlying src = some (.slice e)) (he : P.underlying e = some (.int .u8)) (hd : P.underlying dst = some .string)
    (h : Kd.V (Kd.int .u8) E w base ok v xs) : (convert src dst v).run P w = .ok (.string (strOfNums xs)) w := by
  obtain ⟨A, c, rfl⟩ := Kd.V_slice h
  exact Kd.C_string (P := P) (A := A) (c := c) hs he hd (Kd.F_now (Kd.V_F h))

end Go.Proofs.YtmdeehblmkpddaaDoor.Hand
