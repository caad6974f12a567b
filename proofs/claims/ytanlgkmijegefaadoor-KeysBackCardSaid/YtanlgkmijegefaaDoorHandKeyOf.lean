/- The contract of keys.Of, over utf.Printable as printed and keys.chars by hand. -/
import Derived.Test.YtanlgkmijegefaaDoorHandKeyBytes
namespace Go.Proofs.YtanlgkmijegefaaDoor.Hand
open Go.RowKit Go.Maps Go.WideShapes Go.WideMaps Go.ChangeMaps Go.Proofs.YtanlgkmijegefaaDoorW.PrintWords Go.Proofs.YtanlgkmijegefaaDoorW.PrintLast Go.Proofs.YtanlgkmijegefaaDoor.Pcheck
set_option linter.unusedVariables false
set_option linter.unusedSimpArgs false

theorem look_char {w : World} {B n : Nat} {D : DataW Unit} (hown : w.ownsMap Tryd.prog 3 (plainElem Tryd.prog 3) B n D) (hhas : ∀ c : Int, Maps.has D (.int .i64 c) = (charKind c).isSome)
    (hat : ∀ (c v : Int), charKind c = some v → ∀ z, D.atKey (.int .i64 c) z = .lit (.int .i64 v)) (c : Int) (hc : (Lit.int .i64 c).wf = true) :
    (Instr.lookup 61 (.map (some B)) (.int .i64 c) true).run Tryd.prog w = .ok (.tuple #[.int .i64 ((charKind c).getD 0), .bool (charKind c).isSome]) w := by
  obtain ⟨v, ps, hrun, hv⟩ := hown.look_ok intKey Tryd.underlying61 (z := .int .i64 0) (zd := .lit (.int .i64 0)) (zp := []) (by kernel_rfl) (plainElem_int Tryd.underlying3 (by rfl)) (keyOf_int_mk Tryd.underlying3 hc)
  obtain ⟨c', rfl, hc', _⟩ := plainElem_int_inv Tryd.underlying3 hv
  rw [hhas] at hrun
  have hd : D.atKey (.int .i64 c) (.lit (.int .i64 0)) = .lit (.int .i64 ((charKind c).getD 0)) := by
    cases hk : charKind c with
    | some v => exact hat c v hk _
    | none => exact atKey_of_not_has (by rw [hhas, hk]; rfl) _
  rw [hd] at hc'
  simp only [Prod.mk.injEq, DataW.lit.injEq, Lit.int.injEq, true_and] at hc'
  rw [hrun, hc'.1]

def keys_Of.f (k : Nat) (a0 : Int) : Option (Int × Int) := if (Lit.int .i64 a0).wf = true then (utf_Printable.f k a0).bind fun b => if b = true then some (0, a0) else some ((charKind a0).getD 15, 0) else none
theorem keys_Of.mono : ∀ a0 k, LeO (keys_Of.f k a0) (keys_Of.f (k + 1) a0) := by
  intro a0 k
  unfold keys_Of.f
  repeat' first
      | (with_reducible exact utf_Printable.mono _ _)
      | (with_reducible exact LeO.refl _)
      | (with_reducible exact LeO.none _)
      | (with_reducible refine LeO.ite ?_ ?_)
      | (with_reducible refine LeO.bind ?_ (fun _ => ?_))

def OfOk (c : Int) (w : World) (r1 r2 : Int) : Prop := Calls Tryd.prog 14 #[.int .i64 c] w fun e w' => e = .returned (.agg #[.int .i64 r1, .int .i64 r2]) ∧ Below w.heap.size w w'
def PrOk (c : Int) (b : Bool) : Prop := ∀ w : World, Calls Tryd.prog 16 #[.int .i64 c] w fun e w' => e = .returned (.bool b) ∧ Below w.heap.size w w'

set_option maxHeartbeats 1000000 in
set_option maxRecDepth 100000 in
theorem of_rune (c : Int) (hc : PrOk c true) (w : World) : OfOk c w 0 c := by
  unfold OfOk
  go_enter Tryd.func14, Tryd.ntmps14
  go_wp2_with (fail)
  refine (hc _).mono ?_
  rintro e w1 ⟨rfl, b1⟩
  have hblk := box_after _ b1
  have z1 := Aside0.mk (show Below w.heap.size w w1 from ((Below.refl w.heap.size w).alloc (Nat.le_refl _) _).trans (b1.mono (by simp)))
  have hcz := (blk_cell hblk 0).trans rfl
  have hfz := blk_frozen hblk 0
  have hcz1 := (blk_cell hblk 1).trans rfl
  have hfz1 := blk_frozen hblk 1
  clear b1
  go_wp2_with (fail)
  refine bodyPost_ret (results_cell_row rfl _ _ w.heap.size 23 #[.int .i64 0, .int .i64 c] (0, 0) _ rfl (by refine blk_put (cs := #[.int .i64 0, .int .i64 0]) ?_ 1 _ rfl; refine blk_put (cs := #[.int .i64 0, .int .i64 0]) ?_ 0 _ rfl; exact hblk) Tryd.underlying23 rfl (by kernel_rfl)) rfl ?_
  exact ⟨rfl, below_set (below_set z1.out (Nat.le_refl _)) (Nat.le_refl _)⟩

set_option maxHeartbeats 1000000 in
set_option maxRecDepth 100000 in
theorem of_other (c : Int) (hw : (Lit.int .i64 c).wf = true) (hc : PrOk c false) (w : World) : OfOk c w ((charKind c).getD 15) 0 := by
  unfold OfOk
  go_enter Tryd.func14, Tryd.ntmps14
  go_wp2_with (fail)
  refine (hc _).mono ?_
  rintro e w1 ⟨rfl, b1⟩
  have hblk := box_after _ b1
  have z1 := Aside0.mk (show Below w.heap.size w w1 from ((Below.refl w.heap.size w).alloc (Nat.le_refl _) _).trans (b1.mono (by simp)))
  clear b1
  go_wp2_with (fail)
  refine (chars_any w1).mono ?_
  rintro e w2 ⟨B, n, D, rfl, hB, hown, hn, hhas, hat, b2⟩
  have hblk2 := (b2.block w.heap.size (Array.getElem?_eq_some_iff.1 hblk).1).trans hblk
  have z2 := Aside0.mk (show Below w.heap.size w w2 from z1.out.trans (b2.mono z1.out.size))
  have hl := look_char hown hhas hat c hw
  clear hown hhas hat b2 hblk
  have hcz := (blk_cell hblk2 0).trans rfl
  have hfz := blk_frozen hblk2 0
  have hcz1 := (blk_cell hblk2 1).trans rfl
  have hfz1 := blk_frozen hblk2 1
  cases hk : charKind c with
  | none =>
    rw [hk] at hl
    simp only [Option.getD_none, Option.isSome_none] at hl
    go_wp2_with (fail)
    refine bodyPost_ret (results_cell_row rfl _ _ w.heap.size 23 #[.int .i64 15, .int .i64 0] (0, 0) _ rfl (by refine blk_put (cs := #[.int .i64 15, .int .i64 0]) ?_ 1 _ rfl; refine blk_put (cs := #[.int .i64 0, .int .i64 0]) ?_ 0 _ rfl; exact hblk2) Tryd.underlying23 rfl (by kernel_rfl)) rfl ?_
    exact ⟨by rw [hk]; rfl, below_set (below_set z2.out (Nat.le_refl _)) (Nat.le_refl _)⟩
  | some v =>
    rw [hk] at hl
    simp only [Option.getD_some, Option.isSome_some] at hl
    go_wp2_with (fail)
    refine bodyPost_ret (results_cell_row rfl _ _ w.heap.size 23 #[.int .i64 v, .int .i64 0] (0, 0) _ rfl (by refine blk_put (cs := #[.int .i64 v, .int .i64 0]) ?_ 1 _ rfl; refine blk_put (cs := #[.int .i64 0, .int .i64 0]) ?_ 0 _ rfl; exact hblk2) Tryd.underlying23 rfl (by kernel_rfl)) rfl ?_
    exact ⟨by rw [hk]; rfl, below_set (below_set z2.out (Nat.le_refl _)) (Nat.le_refl _)⟩

theorem keys_Of.calls (k : Nat) (a0 : Int) (r1 r2 : Int) (w : World) (h : keys_Of.f k a0 = some (r1, r2)) :
    Calls Tryd.prog 14 #[.int .i64 a0] w fun e w' => e = .returned (.agg #[.int .i64 r1, .int .i64 r2]) ∧ Below w.heap.size w w' := by
  show OfOk a0 w r1 r2
  unfold keys_Of.f at h
  by_cases hw : (Lit.int .i64 a0).wf = true
  · rw [if_pos hw] at h
    obtain ⟨b, hb, h⟩ := Option.bind_eq_some_iff.mp h
    have hp : PrOk a0 b := fun w' => utf_Printable.calls k a0 b w' hb
    cases b with
    | true =>
      rw [if_pos rfl] at h
      have e := Option.some.inj h
      injection e with e1 e2
      subst e1 e2
      exact of_rune a0 hp w
    | false =>
      rw [if_neg (by decide)] at h
      have e := Option.some.inj h
      injection e with e1 e2
      subst e1 e2
      exact of_other a0 hw hp w
  · rw [if_neg hw] at h
    cases h

end Go.Proofs.YtanlgkmijegefaaDoor.Hand
