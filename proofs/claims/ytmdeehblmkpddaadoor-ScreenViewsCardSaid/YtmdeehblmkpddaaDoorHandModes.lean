/- view.modes: a table of function values; view.right, view.Stars, view.Place. -/
import Derived.Test.YtmdeehblmkpddaaDoorWMore
import Derived.Test.YtmdeehblmkpddaaDoorProg
import Derived.BigQuiet
import Derived.Deep.QuietTactic
namespace Go.Proofs.YtmdeehblmkpddaaDoor.Hand
open Go.RowKit Go.Proofs.YtmdeehblmkpddaaDoorW.PrintWords Go.Proofs.YtmdeehblmkpddaaDoorW.PrintLast
set_option linter.unusedVariables false
set_option linter.unusedSimpArgs false

def fn (k : Nat) : Value := .func (.func k) #[] #[]
def modesV (b : Nat) : Value :=
  .agg #[fn 63, fn 64, fn 65, fn 66, fn 62, .func (.func 67) #[] #[.pointer (some ⟨b, 0, none⟩)]]

theorem setCell_prev (w : World) (cs : Array Value) (t : TypeId) (B : Obj) (i : Nat) (v : Value) : ((w.alloc (.cells cs t)).alloc B).setCell ⟨w.heap.size, i, none⟩ v = (w.alloc (.cells (cs.setIfInBounds i v) t)).alloc B := by
  unfold World.setCell World.alloc
  simp only [World.mk.injEq, true_and, and_true]
  apply Array.ext
  · simp
  · intro j h1 h2
    simp only [Array.getElem_modify, Array.getElem_push, Array.size_push]
    by_cases e : j < w.heap.size
    · rw [if_neg (by omega)]
      simp [e, show j < w.heap.size + 1 by omega]
    · by_cases e2 : j = w.heap.size
      · subst e2
        simp
      · rw [if_neg (by omega)]
        simp [show ¬ j < w.heap.size + 1 by omega]
theorem store_prev {P : Program} (w : World) (cs : Array Value) (t : TypeId) (B : Obj) (i : Nat) (v : Value) (hv : v.oneCell' = true) (hi : i < cs.size) :
    (store ⟨w.heap.size, i, none⟩ v).run P ((w.alloc (.cells cs t)).alloc B) = .ok () ((w.alloc (.cells (cs.setIfInBounds i v) t)).alloc B) := by
  have hA : ((w.alloc (.cells cs t)).alloc B).heap[w.heap.size]? = some (.cells cs t (0, 0)) := (heap_alloc_old _ _ (by simp)).trans (heap_alloc_new w _)
  have hc : ((w.alloc (.cells cs t)).alloc B).cell? ⟨w.heap.size, i, none⟩ = some cs[i] := (blk_cell hA i).trans (Array.getElem?_eq_getElem hi)
  rw [run_store _ _ _ _ _ hv, hc]
  simp [blk_frozen hA i, setCell_prev]

set_option maxHeartbeats 1000000 in
set_option maxRecDepth 100000 in
theorem modes_ok (w : World) : Calls Tryd.prog 47 #[] w fun e w' => ∃ b, e = .returned (modesV b) ∧ w'.cell? ⟨b, 0, none⟩ = some (fn 62) ∧ Below w.heap.size w w' := by
  have hmf : ∀ (fn : Fn) (first cap : Array Value) (w : World), (Instr.makeFunc fn first cap).run Tryd.prog w = .ok (.func fn first cap) w := fun _ _ _ _ => rfl
  have hc1 : ((w.alloc (.cells #[.nilFunc, .nilFunc, .nilFunc, .nilFunc, .nilFunc, .nilFunc] 86)).alloc (.cells #[.nilFunc] 83)).cell? ⟨w.heap.size + 1, 0, none⟩ = some .nilFunc := (blk_cell (heap_alloc2_new w _ _) 0).trans rfl
  have hf1 : ((w.alloc (.cells #[.nilFunc, .nilFunc, .nilFunc, .nilFunc, .nilFunc, .nilFunc] 86)).alloc (.cells #[.nilFunc] 83)).frozen? ⟨w.heap.size + 1, 0, none⟩ = false := blk_frozen (heap_alloc2_new w _ _) 0
  have hb1 : (((w.alloc (.cells #[.nilFunc, .nilFunc, .nilFunc, .nilFunc, .nilFunc, .nilFunc] 86)).alloc (.cells #[.nilFunc] 83)).setCell ⟨w.heap.size + 1, 0, none⟩ (.func (.func 62) #[] #[])).heap[w.heap.size + 1]? = some (.cells #[.func (.func 62) #[] #[]] 83) := blk_put (heap_alloc2_new w _ _) 0 _ rfl
  have hc2 := (blk_cell hb1 0).trans rfl
  have hA : ((w.alloc (.cells #[.nilFunc, .nilFunc, .nilFunc, .nilFunc, .nilFunc, .nilFunc] 86)).alloc (.cells #[.nilFunc] 83)).heap[w.heap.size]? = some (.cells #[.nilFunc, .nilFunc, .nilFunc, .nilFunc, .nilFunc, .nilFunc] 86) := (heap_alloc_old (w.alloc _) _ (by simp)).trans (heap_alloc_new w _)
  have hb0 : (((w.alloc (.cells #[.nilFunc, .nilFunc, .nilFunc, .nilFunc, .nilFunc, .nilFunc] 86)).alloc (.cells #[.nilFunc] 83)).setCell ⟨w.heap.size + 1, 0, none⟩ (.func (.func 62) #[] #[])).heap[w.heap.size]? = some (.cells #[.nilFunc, .nilFunc, .nilFunc, .nilFunc, .nilFunc, .nilFunc] 86) := (Below.heap_setCell _ _ _ w.heap.size (by simp)).trans hA
  have hst : (store ⟨w.heap.size + 1, 0, none⟩ (.func (.func 62) #[] #[])).run Tryd.prog ((w.alloc (.cells #[.nilFunc, .nilFunc, .nilFunc, .nilFunc, .nilFunc, .nilFunc] 86)).alloc (.cells #[.nilFunc] 83)) = .ok () (((w.alloc (.cells #[.nilFunc, .nilFunc, .nilFunc, .nilFunc, .nilFunc, .nilFunc] 86)).alloc (.cells #[.nilFunc] 83)).setCell ⟨w.heap.size + 1, 0, none⟩ (.func (.func 62) #[] #[])) := by
    rw [run_store _ _ _ _ _ rfl, hc1]
    simp [hf1]
  clear hc1 hf1
  have hc2 : (((w.alloc (.cells #[.nilFunc, .nilFunc, .nilFunc, .nilFunc, .nilFunc, .nilFunc] 86)).alloc (.cells #[.nilFunc] 83)).setCell ⟨w.heap.size + 1, 0, none⟩ (.func (.func 62) #[] #[])).cell? ⟨w.heap.size + 1, 0, none⟩ = some (.func (.func 62) #[] #[]) := hc2
  have p0 : (store ⟨w.heap.size, 0, none⟩ (.func (.func 63) #[] #[])).run Tryd.prog ((w.alloc (.cells #[.nilFunc, .nilFunc, .nilFunc, .nilFunc, .nilFunc, .nilFunc] 86)).alloc (.cells #[(.func (.func 62) #[] #[])] 83)) = .ok () ((w.alloc (.cells #[(.func (.func 63) #[] #[]), .nilFunc, .nilFunc, .nilFunc, .nilFunc, .nilFunc] 86)).alloc (.cells #[(.func (.func 62) #[] #[])] 83)) := store_prev w #[.nilFunc, .nilFunc, .nilFunc, .nilFunc, .nilFunc, .nilFunc] _ _ 0 _ rfl (by decide)
  have p1 : (store ⟨w.heap.size, 1, none⟩ (.func (.func 64) #[] #[])).run Tryd.prog ((w.alloc (.cells #[(.func (.func 63) #[] #[]), .nilFunc, .nilFunc, .nilFunc, .nilFunc, .nilFunc] 86)).alloc (.cells #[(.func (.func 62) #[] #[])] 83)) = .ok () ((w.alloc (.cells #[(.func (.func 63) #[] #[]), (.func (.func 64) #[] #[]), .nilFunc, .nilFunc, .nilFunc, .nilFunc] 86)).alloc (.cells #[(.func (.func 62) #[] #[])] 83)) := store_prev w #[(.func (.func 63) #[] #[]), .nilFunc, .nilFunc, .nilFunc, .nilFunc, .nilFunc] _ _ 1 _ rfl (by decide)
  have p2 : (store ⟨w.heap.size, 2, none⟩ (.func (.func 65) #[] #[])).run Tryd.prog ((w.alloc (.cells #[(.func (.func 63) #[] #[]), (.func (.func 64) #[] #[]), .nilFunc, .nilFunc, .nilFunc, .nilFunc] 86)).alloc (.cells #[(.func (.func 62) #[] #[])] 83)) = .ok () ((w.alloc (.cells #[(.func (.func 63) #[] #[]), (.func (.func 64) #[] #[]), (.func (.func 65) #[] #[]), .nilFunc, .nilFunc, .nilFunc] 86)).alloc (.cells #[(.func (.func 62) #[] #[])] 83)) := store_prev w #[(.func (.func 63) #[] #[]), (.func (.func 64) #[] #[]), .nilFunc, .nilFunc, .nilFunc, .nilFunc] _ _ 2 _ rfl (by decide)
  have p3 : (store ⟨w.heap.size, 3, none⟩ (.func (.func 66) #[] #[])).run Tryd.prog ((w.alloc (.cells #[(.func (.func 63) #[] #[]), (.func (.func 64) #[] #[]), (.func (.func 65) #[] #[]), .nilFunc, .nilFunc, .nilFunc] 86)).alloc (.cells #[(.func (.func 62) #[] #[])] 83)) = .ok () ((w.alloc (.cells #[(.func (.func 63) #[] #[]), (.func (.func 64) #[] #[]), (.func (.func 65) #[] #[]), (.func (.func 66) #[] #[]), .nilFunc, .nilFunc] 86)).alloc (.cells #[(.func (.func 62) #[] #[])] 83)) := store_prev w #[(.func (.func 63) #[] #[]), (.func (.func 64) #[] #[]), (.func (.func 65) #[] #[]), .nilFunc, .nilFunc, .nilFunc] _ _ 3 _ rfl (by decide)
  have p4 : (store ⟨w.heap.size, 4, none⟩ (.func (.func 62) #[] #[])).run Tryd.prog ((w.alloc (.cells #[(.func (.func 63) #[] #[]), (.func (.func 64) #[] #[]), (.func (.func 65) #[] #[]), (.func (.func 66) #[] #[]), .nilFunc, .nilFunc] 86)).alloc (.cells #[(.func (.func 62) #[] #[])] 83)) = .ok () ((w.alloc (.cells #[(.func (.func 63) #[] #[]), (.func (.func 64) #[] #[]), (.func (.func 65) #[] #[]), (.func (.func 66) #[] #[]), (.func (.func 62) #[] #[]), .nilFunc] 86)).alloc (.cells #[(.func (.func 62) #[] #[])] 83)) := store_prev w #[(.func (.func 63) #[] #[]), (.func (.func 64) #[] #[]), (.func (.func 65) #[] #[]), (.func (.func 66) #[] #[]), .nilFunc, .nilFunc] _ _ 4 _ rfl (by decide)
  have p5 : (store ⟨w.heap.size, 5, none⟩ (.func (.func 67) #[] #[.pointer (some ⟨w.heap.size + 1, 0, none⟩)])).run Tryd.prog ((w.alloc (.cells #[(.func (.func 63) #[] #[]), (.func (.func 64) #[] #[]), (.func (.func 65) #[] #[]), (.func (.func 66) #[] #[]), (.func (.func 62) #[] #[]), .nilFunc] 86)).alloc (.cells #[(.func (.func 62) #[] #[])] 83)) = .ok () ((w.alloc (.cells #[(.func (.func 63) #[] #[]), (.func (.func 64) #[] #[]), (.func (.func 65) #[] #[]), (.func (.func 66) #[] #[]), (.func (.func 62) #[] #[]), (.func (.func 67) #[] #[.pointer (some ⟨w.heap.size + 1, 0, none⟩)])] 86)).alloc (.cells #[(.func (.func 62) #[] #[])] 83)) := store_prev w #[(.func (.func 63) #[] #[]), (.func (.func 64) #[] #[]), (.func (.func 65) #[] #[]), (.func (.func 66) #[] #[]), (.func (.func 62) #[] #[]), .nilFunc] _ _ 5 _ rfl (by decide)
  go_enter Tryd.func47, Tryd.ntmps47
  go_wp2_with (fail)
  refine bodyPost_ret (results_cell_row rfl _ _ w.heap.size 86 _ (0, 0) _ rfl ((heap_alloc_old _ _ (by simp)).trans (heap_alloc_new w _)) Tryd.underlying86 rfl (by kernel_rfl)) rfl ?_
  exact ⟨w.heap.size + 1, rfl, (blk_cell (heap_alloc2_new w _ _) 0).trans rfl, ((Below.refl w.heap.size w).alloc (Nat.le_refl _) _).alloc (by simp) _⟩

def rightB (mode count at_ : Int) : Bool := decide (0 ≤ mode) && decide (mode < 3) && decide (0 ≤ at_) && decide (at_ ≤ count) && decide (count ≤ 1024)
def RightOk (mode count at_ : Int) (w : World) (b : Bool) : Prop := Calls Tryd.prog 44 #[.int .i64 mode, .int .i64 count, .int .i64 at_] w fun e w' => e = .returned (.bool b) ∧ Below w.heap.size w w'
set_option maxHeartbeats 1000000 in
set_option maxRecDepth 100000 in
theorem right_a (mode count at_ : Int) (w : World) (h : ¬ 0 ≤ mode) : RightOk mode count at_ w false := by
  unfold RightOk
  have h1 : decide (0 ≤ mode) = false := decide_eq_false h
  clear h
  go_enter Tryd.func44, Tryd.ntmps44
  go_wp2_with (fail)
  go_ret
  exact ⟨rfl, Below.refl _ _⟩
set_option maxHeartbeats 1000000 in
set_option maxRecDepth 100000 in
theorem right_b (mode count at_ : Int) (w : World) (h1 : 0 ≤ mode) (h : ¬ mode < 3) : RightOk mode count at_ w false := by
  unfold RightOk
  have h2 : decide (mode < 3) = false := decide_eq_false h
  clear h
  go_enter Tryd.func44, Tryd.ntmps44
  go_wp2_with (fail)
  refine (modes_ok _).mono ?_
  rintro e w1 ⟨b, rfl, _, hb⟩
  go_wp2_with (fail)
  go_ret
  exact ⟨rfl, hb⟩
set_option maxHeartbeats 1000000 in
set_option maxRecDepth 100000 in
theorem right_c (mode count at_ : Int) (w : World) (h1 : 0 ≤ mode) (h2 : mode < 3) (h : ¬ 0 ≤ at_) : RightOk mode count at_ w false := by
  unfold RightOk
  have h3 : decide (0 ≤ at_) = false := decide_eq_false h
  clear h
  go_enter Tryd.func44, Tryd.ntmps44
  go_wp2_with (fail)
  refine (modes_ok _).mono ?_
  rintro e w1 ⟨b, rfl, _, hb⟩
  go_wp2_with (fail)
  go_ret
  exact ⟨rfl, hb⟩
set_option maxHeartbeats 1000000 in
set_option maxRecDepth 100000 in
theorem right_d (mode count at_ : Int) (w : World) (h1 : 0 ≤ mode) (h2 : mode < 3) (h3 : 0 ≤ at_) (h : ¬ at_ ≤ count) : RightOk mode count at_ w false := by
  unfold RightOk
  have h4 : decide (at_ ≤ count) = false := decide_eq_false h
  clear h
  go_enter Tryd.func44, Tryd.ntmps44
  go_wp2_with (fail)
  refine (modes_ok _).mono ?_
  rintro e w1 ⟨b, rfl, _, hb⟩
  go_wp2_with (fail)
  go_ret
  exact ⟨rfl, hb⟩
set_option maxHeartbeats 1000000 in
set_option maxRecDepth 100000 in
theorem right_e (mode count at_ : Int) (w : World) (h1 : 0 ≤ mode) (h2 : mode < 3) (h3 : 0 ≤ at_) (h4 : at_ ≤ count) (h : ¬ count ≤ 1024) : RightOk mode count at_ w false := by
  unfold RightOk
  have h5 : decide (count ≤ 1024) = false := decide_eq_false h
  clear h
  go_enter Tryd.func44, Tryd.ntmps44
  go_wp2_with (fail)
  refine (modes_ok _).mono ?_
  rintro e w1 ⟨b, rfl, _, hb⟩
  go_wp2_with (fail)
  go_ret
  exact ⟨rfl, hb⟩
set_option maxHeartbeats 1000000 in
set_option maxRecDepth 100000 in
theorem right_f (mode count at_ : Int) (w : World) (h1 : 0 ≤ mode) (h2 : mode < 3) (h3 : 0 ≤ at_) (h4 : at_ ≤ count) (h5 : count ≤ 1024) : RightOk mode count at_ w true := by
  unfold RightOk
  go_enter Tryd.func44, Tryd.ntmps44
  go_wp2_with (fail)
  refine (modes_ok _).mono ?_
  rintro e w1 ⟨b, rfl, _, hb⟩
  go_wp2_with (fail)
  go_ret
  exact ⟨rfl, hb⟩
theorem right_ok (mode count at_ : Int) (w : World) : RightOk mode count at_ w (rightB mode count at_) := by
  unfold rightB
  by_cases h1 : 0 ≤ mode
  · by_cases h2 : mode < 3
    · by_cases h3 : 0 ≤ at_
      · by_cases h4 : at_ ≤ count
        · by_cases h5 : count ≤ 1024
          · simpa [h1, h2, h3, h4, h5] using right_f mode count at_ w h1 h2 h3 h4 h5
          · simpa [h1, h2, h3, h4, h5] using right_e mode count at_ w h1 h2 h3 h4 h5
        · simpa [h1, h2, h3, h4] using right_d mode count at_ w h1 h2 h3 h4
      · simpa [h1, h2, h3] using right_c mode count at_ w h1 h2 h3
    · simpa [h1, h2] using right_b mode count at_ w h1 h2
  · simpa [h1] using right_a mode count at_ w h1

def view_right.f (a0 a1 a2 : Int) : Option Bool := some (rightB a0 a1 a2)
theorem view_right.calls (a0 a1 a2 : Int) (r : Bool) (w : World) (h : view_right.f a0 a1 a2 = some r) :
    Calls Tryd.prog 44 #[.int .i64 a0, .int .i64 a1, .int .i64 a2] w fun e w' => e = .returned (.bool r) ∧ Below w.heap.size w w' := by
  obtain rfl := Option.some.inj h
  exact right_ok a0 a1 a2 w

def starsI (mode count : Int) : Int := if rightB mode count 0 = true then (if mode = 0 then 0 else if mode = 1 then count else if count = 0 then 0 else 8) else 0
def StarsOk (mode count : Int) (w : World) (r : Int) : Prop := Calls Tryd.prog 31 #[.int .i64 mode, .int .i64 count] w fun e w' => e = .returned (.int .i64 r) ∧ Below w.heap.size w w'
set_option maxHeartbeats 1000000 in
set_option maxRecDepth 100000 in
theorem stars_no (mode count : Int) (w : World) (h : rightB mode count 0 = false) : StarsOk mode count w 0 := by
  unfold StarsOk
  go_enter Tryd.func31, Tryd.ntmps31
  go_wp2_with (fail)
  refine (right_ok mode count 0 _).mono ?_
  rw [h]
  rintro e w1 ⟨rfl, hb⟩
  go_wp2_with (fail)
  go_ret
  exact ⟨rfl, hb⟩
set_option maxHeartbeats 1000000 in
set_option maxRecDepth 100000 in
theorem zero1 (c : Int) (w : World) : Calls Tryd.prog 63 #[.int .i64 c] w fun e w' => e = .returned (.int .i64 0) ∧ Below w.heap.size w w' := by
  go_enter Tryd.func63, Tryd.ntmps63
  go_wp2_with (fail)
  go_ret
  exact ⟨rfl, Below.refl _ _⟩
set_option maxHeartbeats 1000000 in
set_option maxRecDepth 100000 in
theorem zero2 (c d : Int) (w : World) : Calls Tryd.prog 64 #[.int .i64 c, .int .i64 d] w fun e w' => e = .returned (.int .i64 0) ∧ Below w.heap.size w w' := by
  go_enter Tryd.func64, Tryd.ntmps64
  go_wp2_with (fail)
  go_ret
  exact ⟨rfl, Below.refl _ _⟩
set_option maxHeartbeats 1000000 in
set_option maxRecDepth 100000 in
theorem same1 (c : Int) (w : World) : Calls Tryd.prog 65 #[.int .i64 c] w fun e w' => e = .returned (.int .i64 c) ∧ Below w.heap.size w w' := by
  go_enter Tryd.func65, Tryd.ntmps65
  go_wp2_with (fail)
  go_ret
  exact ⟨rfl, Below.refl _ _⟩
set_option maxHeartbeats 1000000 in
set_option maxRecDepth 100000 in
theorem same2 (c d : Int) (w : World) : Calls Tryd.prog 66 #[.int .i64 c, .int .i64 d] w fun e w' => e = .returned (.int .i64 d) ∧ Below w.heap.size w w' := by
  go_enter Tryd.func66, Tryd.ntmps66
  go_wp2_with (fail)
  go_ret
  exact ⟨rfl, Below.refl _ _⟩
set_option maxHeartbeats 1000000 in
set_option maxRecDepth 100000 in
theorem eight1 (c : Int) (w : World) (h0 : 0 ≤ c) (h1 : c ≤ 1024) : Calls Tryd.prog 62 #[.int .i64 c] w fun e w' => e = .returned (.int .i64 (if c = 0 then 0 else 8)) ∧ Below w.heap.size w w' := by
  go_enter Tryd.func62, Tryd.ntmps62
  go_wp2_with (fail)
  · go_ret
    exact ⟨rfl, Below.refl _ _⟩
  · go_ret
    exact ⟨rfl, Below.refl _ _⟩
  · go_ret
    exact ⟨by rw [show c * 8 = 8 by omega]; rfl, Below.refl _ _⟩
set_option maxHeartbeats 1000000 in
set_option maxRecDepth 100000 in
theorem eight2 (c d : Int) (b : Nat) (w : World) (hc : w.cell? ⟨b, 0, none⟩ = some (.func (.func 62) #[] #[])) (h0 : 0 ≤ c) (h1 : c ≤ 1024) : Calls Tryd.prog 67 #[.int .i64 c, .int .i64 d, .pointer (some ⟨b, 0, none⟩)] w fun e w' => e = .returned (.int .i64 (if c = 0 then 0 else 8)) ∧ Below w.heap.size w w' := by
  go_enter Tryd.func67, Tryd.ntmps67
  go_wp2_with (fail)
  refine (eight1 c _ h0 h1).mono ?_
  rintro e w1 ⟨rfl, hb⟩
  go_wp2_with (fail)
  all_goals
    go_ret
    exact ⟨rfl, hb⟩
set_option maxRecDepth 100000 in
theorem fd_00 (b : Nat) (w : World) : (Instr.field 85 (.agg #[.func (.func 63) #[] #[], .func (.func 64) #[] #[]]) 0).run Tryd.prog w = .ok (.func (.func 63) #[] #[]) w := by rfl
set_option maxRecDepth 100000 in
theorem fd_01 (b : Nat) (w : World) : (Instr.field 85 (.agg #[.func (.func 63) #[] #[], .func (.func 64) #[] #[]]) 1).run Tryd.prog w = .ok (.func (.func 64) #[] #[]) w := by rfl
set_option maxRecDepth 100000 in
theorem fd_10 (b : Nat) (w : World) : (Instr.field 85 (.agg #[.func (.func 65) #[] #[], .func (.func 66) #[] #[]]) 0).run Tryd.prog w = .ok (.func (.func 65) #[] #[]) w := by rfl
set_option maxRecDepth 100000 in
theorem fd_11 (b : Nat) (w : World) : (Instr.field 85 (.agg #[.func (.func 65) #[] #[], .func (.func 66) #[] #[]]) 1).run Tryd.prog w = .ok (.func (.func 66) #[] #[]) w := by rfl
set_option maxRecDepth 100000 in
theorem fd_20 (b : Nat) (w : World) : (Instr.field 85 (.agg #[.func (.func 62) #[] #[], .func (.func 67) #[] #[.pointer (some ⟨b, 0, none⟩)]]) 0).run Tryd.prog w = .ok (.func (.func 62) #[] #[]) w := by rfl
set_option maxRecDepth 100000 in
theorem fd_21 (b : Nat) (w : World) : (Instr.field 85 (.agg #[.func (.func 62) #[] #[], .func (.func 67) #[] #[.pointer (some ⟨b, 0, none⟩)]]) 1).run Tryd.prog w = .ok (.func (.func 67) #[] #[.pointer (some ⟨b, 0, none⟩)]) w := by rfl
set_option maxRecDepth 100000 in
theorem ix_0 (b : Nat) (w : World) : (Instr.index 86 (.agg #[.func (.func 63) #[] #[], .func (.func 64) #[] #[], .func (.func 65) #[] #[], .func (.func 66) #[] #[], .func (.func 62) #[] #[], .func (.func 67) #[] #[.pointer (some ⟨b, 0, none⟩)]]) (.int .i64 0)).run Tryd.prog w = .ok (.agg #[.func (.func 63) #[] #[], .func (.func 64) #[] #[]]) w := by rfl
set_option maxRecDepth 100000 in
theorem ix_1 (b : Nat) (w : World) : (Instr.index 86 (.agg #[.func (.func 63) #[] #[], .func (.func 64) #[] #[], .func (.func 65) #[] #[], .func (.func 66) #[] #[], .func (.func 62) #[] #[], .func (.func 67) #[] #[.pointer (some ⟨b, 0, none⟩)]]) (.int .i64 1)).run Tryd.prog w = .ok (.agg #[.func (.func 65) #[] #[], .func (.func 66) #[] #[]]) w := by rfl
set_option maxRecDepth 100000 in
theorem ix_2 (b : Nat) (w : World) : (Instr.index 86 (.agg #[.func (.func 63) #[] #[], .func (.func 64) #[] #[], .func (.func 65) #[] #[], .func (.func 66) #[] #[], .func (.func 62) #[] #[], .func (.func 67) #[] #[.pointer (some ⟨b, 0, none⟩)]]) (.int .i64 2)).run Tryd.prog w = .ok (.agg #[.func (.func 62) #[] #[], .func (.func 67) #[] #[.pointer (some ⟨b, 0, none⟩)]]) w := by rfl
theorem rightB_count {m c a : Int} (h : rightB m c a = true) : 0 ≤ m ∧ m < 3 ∧ 0 ≤ a ∧ a ≤ c ∧ c ≤ 1024 := by
  unfold rightB at h
  simp only [Bool.and_eq_true, decide_eq_true_eq] at h
  omega
set_option maxHeartbeats 1000000 in
set_option maxRecDepth 100000 in
theorem stars_0 (count : Int) (w : World) (h : rightB 0 count 0 = true) : StarsOk 0 count w 0 := by
  unfold StarsOk
  have hr := rightB_count h
  go_enter Tryd.func31, Tryd.ntmps31
  go_wp2_with (fail)
  refine (right_ok 0 count 0 _).mono ?_
  rw [h]
  rintro e w1 ⟨rfl, hb⟩
  go_wp2_with (fail)
  refine (modes_ok _).mono ?_
  rintro e w2 ⟨b, rfl, hc, hb2⟩
  unfold modesV fn
  have hix := ix_0 b w2
  have hfd := fd_00 b w2
  go_wp2_with (fail)
  refine (zero1 count _).mono ?_
  rintro e w3 ⟨rfl, hb3⟩
  go_wp2_with (fail)
  go_ret
  exact ⟨rfl, (hb.trans (hb2.mono hb.size)).trans (hb3.mono (Nat.le_trans hb.size hb2.size))⟩
set_option maxHeartbeats 1000000 in
set_option maxRecDepth 100000 in
theorem stars_1 (count : Int) (w : World) (h : rightB 1 count 0 = true) : StarsOk 1 count w count := by
  unfold StarsOk
  have hr := rightB_count h
  go_enter Tryd.func31, Tryd.ntmps31
  go_wp2_with (fail)
  refine (right_ok 1 count 0 _).mono ?_
  rw [h]
  rintro e w1 ⟨rfl, hb⟩
  go_wp2_with (fail)
  refine (modes_ok _).mono ?_
  rintro e w2 ⟨b, rfl, hc, hb2⟩
  unfold modesV fn
  have hix := ix_1 b w2
  have hfd := fd_10 b w2
  go_wp2_with (fail)
  refine (same1 count _).mono ?_
  rintro e w3 ⟨rfl, hb3⟩
  go_wp2_with (fail)
  go_ret
  exact ⟨rfl, (hb.trans (hb2.mono hb.size)).trans (hb3.mono (Nat.le_trans hb.size hb2.size))⟩
set_option maxHeartbeats 1000000 in
set_option maxRecDepth 100000 in
theorem stars_2 (count : Int) (w : World) (h : rightB 2 count 0 = true) : StarsOk 2 count w (if count = 0 then 0 else 8) := by
  unfold StarsOk
  have hr := rightB_count h
  go_enter Tryd.func31, Tryd.ntmps31
  go_wp2_with (fail)
  refine (right_ok 2 count 0 _).mono ?_
  rw [h]
  rintro e w1 ⟨rfl, hb⟩
  go_wp2_with (fail)
  refine (modes_ok _).mono ?_
  rintro e w2 ⟨b, rfl, hc, hb2⟩
  unfold modesV fn
  have hix := ix_2 b w2
  have hfd := fd_20 b w2
  go_wp2_with (fail)
  refine (eight1 count _ (by omega) (by omega)).mono ?_
  rintro e w3 ⟨rfl, hb3⟩
  go_wp2_with (fail)
  all_goals
    go_ret
    exact ⟨rfl, (hb.trans (hb2.mono hb.size)).trans (hb3.mono (Nat.le_trans hb.size hb2.size))⟩
theorem stars_ok (mode count : Int) (w : World) : StarsOk mode count w (starsI mode count) := by
  unfold starsI
  by_cases h : rightB mode count 0 = true
  · rw [if_pos h]
    have hr := rightB_count h
    obtain rfl | rfl | rfl : mode = 0 ∨ mode = 1 ∨ mode = 2 := by omega
    · exact stars_0 count w h
    · exact stars_1 count w h
    · exact stars_2 count w h
  · rw [if_neg h]
    exact stars_no mode count w (by simpa using h)
def view_Stars.f (a0 a1 : Int) : Option Int := some (starsI a0 a1)
theorem view_Stars.calls (a0 a1 : Int) (r : Int) (w : World) (h : view_Stars.f a0 a1 = some r) :
    Calls Tryd.prog 31 #[.int .i64 a0, .int .i64 a1] w fun e w' => e = .returned (.int .i64 r) ∧ Below w.heap.size w w' := by
  obtain rfl := Option.some.inj h
  exact stars_ok a0 a1 w

def placeI (mode count at_ : Int) : Int := if rightB mode count at_ = true then (if mode = 0 then 0 else if mode = 1 then at_ else if count = 0 then 0 else 8) else 0
def PlaceOk (mode count at_ : Int) (w : World) (r : Int) : Prop := Calls Tryd.prog 33 #[.int .i64 mode, .int .i64 count, .int .i64 at_] w fun e w' => e = .returned (.int .i64 r) ∧ Below w.heap.size w w'
set_option maxHeartbeats 1000000 in
set_option maxRecDepth 100000 in
theorem place_no (mode count at_ : Int) (w : World) (h : rightB mode count at_ = false) : PlaceOk mode count at_ w 0 := by
  unfold PlaceOk
  go_enter Tryd.func33, Tryd.ntmps33
  go_wp2_with (fail)
  refine (right_ok mode count at_ _).mono ?_
  rw [h]
  rintro e w1 ⟨rfl, hb⟩
  go_wp2_with (fail)
  go_ret
  exact ⟨rfl, hb⟩
set_option maxHeartbeats 1000000 in
set_option maxRecDepth 100000 in
theorem place_0 (count at_ : Int) (w : World) (h : rightB 0 count at_ = true) : PlaceOk 0 count at_ w 0 := by
  unfold PlaceOk
  have hr := rightB_count h
  go_enter Tryd.func33, Tryd.ntmps33
  go_wp2_with (fail)
  refine (right_ok 0 count at_ _).mono ?_
  rw [h]
  rintro e w1 ⟨rfl, hb⟩
  go_wp2_with (fail)
  refine (modes_ok _).mono ?_
  rintro e w2 ⟨b, rfl, hc, hb2⟩
  unfold modesV fn
  have hix := ix_0 b w2
  have hfd := fd_01 b w2
  go_wp2_with (fail)
  refine (zero2 count at_ _).mono ?_
  rintro e w3 ⟨rfl, hb3⟩
  go_wp2_with (fail)
  go_ret
  exact ⟨rfl, (hb.trans (hb2.mono hb.size)).trans (hb3.mono (Nat.le_trans hb.size hb2.size))⟩
set_option maxHeartbeats 1000000 in
set_option maxRecDepth 100000 in
theorem place_1 (count at_ : Int) (w : World) (h : rightB 1 count at_ = true) : PlaceOk 1 count at_ w at_ := by
  unfold PlaceOk
  have hr := rightB_count h
  go_enter Tryd.func33, Tryd.ntmps33
  go_wp2_with (fail)
  refine (right_ok 1 count at_ _).mono ?_
  rw [h]
  rintro e w1 ⟨rfl, hb⟩
  go_wp2_with (fail)
  refine (modes_ok _).mono ?_
  rintro e w2 ⟨b, rfl, hc, hb2⟩
  unfold modesV fn
  have hix := ix_1 b w2
  have hfd := fd_11 b w2
  go_wp2_with (fail)
  refine (same2 count at_ _).mono ?_
  rintro e w3 ⟨rfl, hb3⟩
  go_wp2_with (fail)
  go_ret
  exact ⟨rfl, (hb.trans (hb2.mono hb.size)).trans (hb3.mono (Nat.le_trans hb.size hb2.size))⟩
set_option maxHeartbeats 1000000 in
set_option maxRecDepth 100000 in
theorem place_2 (count at_ : Int) (w : World) (h : rightB 2 count at_ = true) : PlaceOk 2 count at_ w (if count = 0 then 0 else 8) := by
  unfold PlaceOk
  have hr := rightB_count h
  go_enter Tryd.func33, Tryd.ntmps33
  go_wp2_with (fail)
  refine (right_ok 2 count at_ _).mono ?_
  rw [h]
  rintro e w1 ⟨rfl, hb⟩
  go_wp2_with (fail)
  refine (modes_ok _).mono ?_
  rintro e w2 ⟨b, rfl, hc, hb2⟩
  unfold modesV fn
  have hix := ix_2 b w2
  have hfd := fd_21 b w2
  go_wp2_with (fail)
  refine (eight2 count at_ b _ hc (by omega) (by omega)).mono ?_
  rintro e w3 ⟨rfl, hb3⟩
  go_wp2_with (fail)
  all_goals
    go_ret
    exact ⟨rfl, (hb.trans (hb2.mono hb.size)).trans (hb3.mono (Nat.le_trans hb.size hb2.size))⟩
theorem viewPlace_ok (mode count at_ : Int) (w : World) : PlaceOk mode count at_ w (placeI mode count at_) := by
  unfold placeI
  by_cases h : rightB mode count at_ = true
  · rw [if_pos h]
    have hr := rightB_count h
    obtain rfl | rfl | rfl : mode = 0 ∨ mode = 1 ∨ mode = 2 := by omega
    · exact place_0 count at_ w h
    · exact place_1 count at_ w h
    · exact place_2 count at_ w h
  · rw [if_neg h]
    exact place_no mode count at_ w (by simpa using h)
def view_Place.f (a0 a1 a2 : Int) : Option Int := some (placeI a0 a1 a2)
theorem view_Place.calls (a0 a1 a2 : Int) (r : Int) (w : World) (h : view_Place.f a0 a1 a2 = some r) :
    Calls Tryd.prog 33 #[.int .i64 a0, .int .i64 a1, .int .i64 a2] w fun e w' => e = .returned (.int .i64 r) ∧ Below w.heap.size w w' := by
  obtain rfl := Option.some.inj h
  exact viewPlace_ok a0 a1 a2 w

end Go.Proofs.YtmdeehblmkpddaaDoor.Hand
