/- The contract of escseq.Next: it answers as the plain function 'nextL' of the bytes; nothing that was there is changed. -/
import Derived.Test.YtmdeehblmkpddaaDoorHandEscKnown
import Derived.Test.YtmdeehblmkpddaaDoorWMore
import Derived.Deep.QuietTactic
import Derived.BigQuiet
import Derived.WalkSpells
import Derived.WalkMore
import Derived.Outline
import Derived.LoopTactic
import Derived.Laws.BytesArg
import Derived.Deep.RegionWith
import Derived.IntWalk
namespace Go.Proofs.YtmdeehblmkpddaaDoor.Hand
open Go.RowKit Go.Maps Go.WideShapes Go.WideMaps Go.ChangeMaps
open Go.Proofs.YtmdeehblmkpddaaDoorW.PrintWords Go.Proofs.YtmdeehblmkpddaaDoorW.PrintLast
set_option linter.unusedVariables false
set_option linter.unusedSimpArgs false

/-- From place i on, d places before the end. -/
def nextGo (l : List Int) : Nat → Nat → Bool → Int × Int × Int × Int
  | 0, _, _ => (0, 0, l.length, 7)
  | d + 1, i, o =>
    if 64 ≤ l.getD i 0 ∧ l.getD i 0 ≤ 126 then (((kindL (strOfNums (l.take (i + 1))).data.toList).getD 15), 0, (i : Int) + 1, 0)
    else if l.getD 1 0 = 79 ∨ 34 ≤ i then (15, 0, i, 0)
    else if 48 ≤ l.getD i 0 ∧ l.getD i 0 ≤ 63 ∧ o = false then nextGo l d (i + 1) o
    else if 32 ≤ l.getD i 0 ∧ l.getD i 0 ≤ 47 then nextGo l d (i + 1) true
    else (15, 0, i, 0)
theorem nextGo_succ (l : List Int) (d i : Nat) (o : Bool) : nextGo l (d + 1) i o = (if 64 ≤ l.getD i 0 ∧ l.getD i 0 ≤ 126 then (((kindL (strOfNums (l.take (i + 1))).data.toList).getD 15), 0, (i : Int) + 1, 0)
    else if l.getD 1 0 = 79 ∨ 34 ≤ i then (15, 0, i, 0)
    else if 48 ≤ l.getD i 0 ∧ l.getD i 0 ≤ 63 ∧ o = false then nextGo l d (i + 1) o
    else if 32 ≤ l.getD i 0 ∧ l.getD i 0 ≤ 47 then nextGo l d (i + 1) true
    else (15, 0, i, 0)) := rfl
def nextL (l : List Int) : Int × Int × Int × Int :=
  if l.length = 0 then (0, 0, 0, 6) else if l.getD 0 0 ≠ 27 then (0, 0, 0, 8)
  else if 1 < l.length ∧ l.getD 1 0 ≠ 91 ∧ l.getD 1 0 ≠ 79 then (15, 0, 1, 0)
  else nextGo l (l.length - 2) 2 false

/-- What the call answers. -/
def ans (p : Int × Int × Int × Int) : Ending := .returned (.tuple #[.agg #[.int .i64 p.1, .int .i64 p.2.1], .int .i64 p.2.2.1, .int .i64 p.2.2.2])

theorem between_any (c a b : Int) (w : World) : Calls Tryd.prog 68 #[.int .u8 c, .int .u8 a, .int .u8 b] w fun e w' => e = .returned (.bool (decide (a ≤ c ∧ c ≤ b))) ∧ w = w' := by
  by_cases h : a ≤ c
  all_goals
    go_enter Tryd.func68, Tryd.ntmps68
    go_wp2
    go_ret
    exact ⟨by first | (simp [h]; done) | (simp [h]; omega), rfl⟩

set_option maxHeartbeats 400000 in
set_option maxRecDepth 100000 in
theorem next_zero (A : Option Addr) (c : Nat) (w : World) : Calls Tryd.prog 48 #[.slice A 0 c] w fun e w' => e = ans (0, 0, 0, 6) ∧ Below w.heap.size w w' := by
  go_enter Tryd.func48, Tryd.ntmps48
  go_wp2
  go_step3
  go_wp2
  rw [Exit.noGoto_ret]
  refine bodyPost_ret (v := .tuple #[.agg #[.int .i64 0, .int .i64 0], .int .i64 0, .int .i64 6]) (by simp [results, Tryd.results48, go_sem]) rfl ⟨rfl, ?_⟩
  exact (Below.refl _ _).alloc (Nat.le_refl _) _

set_option maxHeartbeats 400000 in
set_option maxRecDepth 100000 in
theorem next_other (b off n c : Nat) (x : Int) (w : World) (hn : 0 < n) (hc : w.cell? ⟨b, off, none⟩ = some (.int .u8 x)) (hx : x ≠ 27) : Calls Tryd.prog 48 #[.slice (some ⟨b, off, none⟩) n c] w fun e w' => e = ans (0, 0, 0, 8) ∧ Below w.heap.size w w' := by
  have hb := World.block_lt_of_cell? w _ hc
  have hx1 : (x != 27) = true := bne_iff_ne.mpr hx
  have h0 : ((n : Int) == 0) = false := by simp; omega
  go_enter Tryd.func48, Tryd.ntmps48
  go_wp2
  go_step3
  go_wp2
  rw [Exit.noGoto_ret]
  refine bodyPost_ret (v := .tuple #[.agg #[.int .i64 0, .int .i64 0], .int .i64 0, .int .i64 8]) (by simp [results, Tryd.results48, go_sem]) rfl ⟨rfl, ?_⟩
  exact (Below.refl _ _).alloc (Nat.le_refl _) _

set_option maxHeartbeats 400000 in
set_option maxRecDepth 100000 in
theorem next_two (b off n c : Nat) (y : Int) (w : World) (hn : 1 < n) (hc : w.cell? ⟨b, off, none⟩ = some (.int .u8 27)) (hc1 : w.cell? ⟨b, off + 1, none⟩ = some (.int .u8 y)) (hx : y ≠ 91) (hy : y ≠ 79) : Calls Tryd.prog 48 #[.slice (some ⟨b, off, none⟩) n c] w fun e w' => e = ans (15, 0, 1, 0) ∧ Below w.heap.size w w' := by
  have hb := World.block_lt_of_cell? w _ hc
  have hx1 : (y != 91) = true := bne_iff_ne.mpr hx
  have hx2 : (y != 79) = true := bne_iff_ne.mpr hy
  have h0 : ((n : Int) == 0) = false := by simp; omega
  go_enter Tryd.func48, Tryd.ntmps48
  go_wp2
  go_step3
  go_wp2
  rw [Exit.noGoto_ret]
  refine bodyPost_ret (v := .tuple #[.agg #[.int .i64 15, .int .i64 0], .int .i64 1, .int .i64 0]) (by simp [results, Tryd.results48, go_sem]) rfl ⟨rfl, ?_⟩
  exact (((Below.refl _ _).alloc (Nat.le_refl _) _).alloc (by simp) _)

/-- The bytes lie there. -/
def At (w : World) (b off : Nat) (l : List Int) : Prop := ∀ k, k < l.length → w.cell? ⟨b, off + k, none⟩ = some (.int .u8 (l.getD k 0))
theorem At.below {w w1 : World} {b off : Nat} {l : List Int} (h : At w b off l) (hb : Below w.heap.size w w1) : At w1 b off l := fun k hk => pw_cell_below hb (h k hk)
theorem At.drew {w : World} {b off : Nat} {l : List Int} (h : At w b off l) : At w.drew b off l := h
theorem At.conv {w : World} {b off : Nat} {l : List Int} (h : At w b off l) (k c : Nat) (hk : k < l.length) :
    (Go.convert 22 9 (.slice (some ⟨b, off, none⟩) (k + 1) c)).run Tryd.prog w = .ok (.string (strOfNums (l.take (k + 1)))) w := by
  refine run_convert_bytes_arg w 22 5 Tryd.underlying22 Tryd.underlying5 b off (k + 1) c (l.take (k + 1)) (by simp; omega) (fun i hi => ?_) 9 Tryd.underlying9
  rw [h i (by omega)]
  simp [List.getElem?_take, hi]
theorem strOfNums_size (l : List Int) : (strOfNums l).size = l.length := by simp [strOfNums, ByteArray.size]

end Go.Proofs.YtmdeehblmkpddaaDoor.Hand
