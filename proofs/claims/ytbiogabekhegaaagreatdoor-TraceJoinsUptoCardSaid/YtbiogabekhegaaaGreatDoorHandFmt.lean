/- strconv.FormatUint to the base 16. -/
import Derived.Test.YtbiogabekhegaaaGreatDoorHandPlain
import Derived.Test.YtbiogabekhegaaaGreatDoorHandLaid
import Derived.Test.YtbiogabekhegaaaGreatDoorWMore
import Derived.Laws.BytesArg
import Derived.Laws.BitsAllLaws
import Derived.Deep.LoopGhost
import Derived.BigQuiet
import Derived.Deep.QuietTactic
namespace Go.Proofs.YtbiogabekhegaaaGreatDoor.Hand
open Go.RowKit Go.Proofs.YtbiogabekhegaaaGreatDoorW.PrintWords Go.Proofs.YtbiogabekhegaaaGreatDoorW.PrintLast
set_option linter.unusedVariables false
set_option linter.unusedSimpArgs false

set_option maxHeartbeats 1000000 in
set_option maxRecDepth 100000 in
theorem tz16 (w : World) (h : w.cell? ⟨8, 15, none⟩ = some (.int .u8 4)) : Calls Tryz.prog 121 #[.int .u64 16] w fun e w' => e = .returned (.int .i64 4) ∧ w' = w := by
  have h64 : Calls Tryz.prog 128 #[.int .u64 16] w fun e w' => e = .returned (.int .i64 4) ∧ w' = w := by
    have b1 : bits .and .u64 16 18446744073709551600 = 16 := by decide
    have b2 : IntKind.u64.wrap (-16) = 18446744073709551600 := by decide
    have b3 : IntKind.u64.wrap 4573923408821661840 = 4573923408821661840 := by decide
    go_enter Tryz.func128, Tryz.ntmps128
    go_wp2_with (fail)
    go_ret
    exact ⟨rfl, rfl⟩
  go_enter Tryz.func121, Tryz.ntmps121
  go_wp2_with (fail)
  refine h64.mono ?_
  rintro e w' ⟨rfl, rfl⟩
  go_wp2_with (fail)
  go_ret
  exact ⟨rfl, rfl⟩
set_option maxHeartbeats 1000000 in
set_option maxRecDepth 100000 in
theorem pow2 (w : World) : Calls Tryz.prog 120 #[.int .i64 16] w fun e w' => e = .returned (.bool true) ∧ w' = w := by
  have b1 : bits .and .i64 16 15 = 0 := by decide
  go_enter Tryz.func120, Tryz.ntmps120
  go_wp2_with (fail)
  go_ret
  exact ⟨rfl, rfl⟩

set_option maxRecDepth 100000 in
theorem ix36 (d : Nat) (hd : d < 16) (w : World) : (Instr.index 9 (.string ⟨#[48, 49, 50, 51, 52, 53, 54, 55, 56, 57, 97, 98, 99, 100, 101, 102, 103, 104, 105, 106, 107, 108, 109, 110, 111, 112, 113, 114, 115, 116, 117, 118, 119, 120, 121, 122]⟩) (.int .u64 d)).run Tryz.prog w = .ok (.int .u8 (dgt d).toNat) w := by
  match d, hd with
  | 0, _ => rfl
  | 1, _ => rfl
  | 2, _ => rfl
  | 3, _ => rfl
  | 4, _ => rfl
  | 5, _ => rfl
  | 6, _ => rfl
  | 7, _ => rfl
  | 8, _ => rfl
  | 9, _ => rfl
  | 10, _ => rfl
  | 11, _ => rfl
  | 12, _ => rfl
  | 13, _ => rfl
  | 14, _ => rfl
  | 15, _ => rfl
  | d + 16, h => omega
theorem and15 (v : Nat) (h : v < 18446744073709551616) : bits .and .u64 (v : Int) 15 = ((v % 16 : Nat) : Int) := by
  have := Go.u64_and_nat v 15 h (by omega)
  rw [show ((15 : Nat) : Int) = 15 from rfl] at this
  rw [this, show (15 : Nat) = 2 ^ 4 - 1 from rfl, Nat.and_two_pow_sub_one_eq_mod]
/-- The digits from place i on. -/
def Tail (cs : Array Value) (i : Nat) (tl : List UInt8) : Prop := tl.length + i = 65 ∧ ∀ j, j < tl.length → cs[i + j]? = some (.int .u8 ((tl.getD j 0).toNat : Int))
theorem tail_cons {cs : Array Value} {i : Nat} {tl : List UInt8} (h : Tail cs (i + 1) tl) (hs : cs.size = 65) (c : UInt8) : Tail (cs.setIfInBounds i (.int .u8 (c.toNat : Int))) i (c :: tl) := by
  refine ⟨by have := h.1; simp; omega, fun j hj => ?_⟩
  cases j with
  | zero =>
    rw [Nat.add_zero, Array.getElem?_setIfInBounds, if_pos rfl, if_pos (by have := h.1; omega)]
    rfl
  | succ j =>
    rw [Array.getElem?_setIfInBounds, if_neg (by omega)]
    have := h.2 j (by simpa using hj)
    rw [show i + (j + 1) = i + 1 + j by omega, this]
    rfl
theorem digs_ge (v : Nat) (h : 16 ≤ v) : digs 16 v = digs 16 (v / 16) ++ [dgt (v % 16)] := by
  rw [digs]
  rw [dif_neg (by omega)]
theorem digs_lt (v : Nat) (h : v < 16) : digs 16 v = [dgt v] := by
  rw [digs, dif_pos (.inl h)]

set_option maxHeartbeats 4000000 in
set_option maxRecDepth 100000 in
theorem bits16 (u : Nat) (hu : u < 4294967296) (w : World) (h : w.cell? ⟨8, 15, none⟩ = some (.int .u8 4)) :
    Calls Tryz.prog 101 #[.slice none 0 0, .int .u64 u, .int .i64 16, .bool false, .bool false] w fun e w' => e = .returned (.tuple #[.slice none 0 0, .string ⟨(digs 16 u).toArray⟩]) ∧ Below w.heap.size w w' := by
  have h' := h
  have hb := Aside0.mk (Below.refl w.heap.size w)
  go_enter Tryz.func101, Tryz.ntmps101
  have hz : Aside0 (Tryz.zeroCells151.size = 65) := ⟨by kernel_rfl⟩
  go_wp2_with (fail)
  refine (pow2 _).mono ?_
  rintro e w1 ⟨rfl, rfl⟩
  go_wp2_with (fail)
  refine (tz16 _ (World.cell?_alloc_past _ _ _ (World.block_lt_of_cell? w _ h) |>.trans h)).mono ?_
  rintro e w1 ⟨rfl, rfl⟩
  go_wp2_with (fail)
  have hB0 := Aside0.mk (below_alloc (Below.refl w.heap.size w) (.cells Tryz.zeroCells151 151))
  have hG0 : Aside0 ((w.alloc (.cells Tryz.zeroCells151 151)).heap[w.heap.size]? = some (.cells Tryz.zeroCells151 151 (0, 0))) := ⟨heap_alloc_new w _⟩
  clear h h' hb
  go_loopg [1, 13] 7 (fun kq v1 v13 w' => ∃ (v i : Nat) (tl : List UInt8) (cs : Array Value), v1 = .int .u64 v ∧ v13 = .int .i64 i ∧ Aside0 (v < 16 ^ (kq + 1) ∧ i = 58 + kq) ∧ Aside0 (w'.heap[w.heap.size]? = some (.cells cs 151 (0, 0))) ∧ Aside0 (cs.size = 65) ∧ Aside0 (Tail cs i tl) ∧ Aside0 (digs 16 u = digs 16 v ++ tl) ∧ Aside0 (Below w.heap.size w w'))
  case atStart => exact ⟨u, 65, [], _, rfl, rfl, ⟨by omega⟩, hG0, hz, ⟨rfl, fun j hj => absurd hj (by simp)⟩, ⟨by simp⟩, hB0⟩
  case round =>
    clear hz hB0 hG0
    obtain ⟨v, i, tl, cs, rfl, rfl, hk, hG, hz, hT, hD, hB⟩ := hrel
    obtain ⟨j, hj⟩ : ∃ j, i = j + 1 := ⟨i - 1, by have := hk.out.2; omega⟩
    subst hj
    have hj64 : j < 65 := by have := hT.out.1; omega
    have hwj : IntKind.i64.wrap (((j + 1 : Nat) : Int) - 1) = (j : Int) := by unfold IntKind.wrap; simp [IntKind.bits]; omega
    obtain ⟨x0, c0⟩ : ∃ x, wr.cell? ⟨w.heap.size, j, none⟩ = some x := ⟨_, (blk_cell hG.out j).trans (Array.getElem?_eq_getElem (by have := hz.out; omega))⟩
    have f0 := blk_frozen hG.out j
    have g1 : (0 : Int) ≤ (j : Int) := by omega
    have g2 : (j : Int) < 65 := by omega
    by_cases hv : 16 ≤ v
    · obtain ⟨k, rfl⟩ : ∃ k, gk = k + 1 := by
        cases gk with
        | zero => have := hk.out.1; omega
        | succ k => exact ⟨k, rfl⟩
      have hp : 16 ^ (k + 1 + 1) = 16 ^ (k + 1) * 16 := rfl
      have hv64 : v < 18446744073709551616 := by
        have h1 : 16 ^ (k + 1 + 1) ≤ 16 ^ 8 := Nat.pow_le_pow_right (by omega) (by have := hk.out.2; have := hT.out.1; omega)
        have h2 : (16 : Nat) ^ 8 = 4294967296 := by decide
        have := hk.out.1
        omega
      have hk2 := Aside0.mk (show v / 16 < 16 ^ (k + 1) ∧ j = 58 + k by have := hk.out; omega)
      have hT2 := Aside0.mk (tail_cons hT.out hz.out (dgt (v % 16)))
      have hD2 := Aside0.mk (show digs 16 u = digs 16 (v / 16) ++ (dgt (v % 16) :: tl) by rw [hD.out, digs_ge v hv, List.append_assoc]; rfl)
      have f1 : (16 : Int) ≤ (v : Int) := by omega
      have ba := and15 v hv64
      have hx := fun w => ix36 (v % 16) (by omega) w
      clear hk hv hv64 hp hj64
      generalize v % 16 = d at *
      go_wp2_with (fail)
      go_roundg k
      case measure => omega
      case rel => exact ⟨v / 16, j, _, _, by simp, rfl, hk2, ⟨blk_put hG.out j _ rfl⟩, ⟨by rw [Array.size_setIfInBounds]; exact hz.out⟩, hT2, hD2, ⟨below_set hB.out (Nat.le_refl _)⟩⟩
    · have f1 : decide ((16 : Int) ≤ (v : Int)) = false := decide_eq_false (by omega)
      have hx := fun w => ix36 v (by omega) w
      have hT2 := Aside0.mk (tail_cons hT.out hz.out (dgt v))
      have hD2 := Aside0.mk (show digs 16 u = dgt v :: tl by rw [hD.out, digs_lt v (by omega)]; rfl)
      have hG2 : Aside0 ((wr.setCell ⟨w.heap.size, j, none⟩ (.int .u8 ((dgt v).toNat : Int))).heap[w.heap.size]? = some (.cells (cs.setIfInBounds j (.int .u8 ((dgt v).toNat : Int))) 151 (0, 0))) := ⟨blk_put hG.out j _ rfl⟩
      have hln : (dgt v :: tl).length = 65 - j := by have := hT2.out.1; omega
      have hcv := fun (W : World) (hW : W.heap[w.heap.size]? = some (.cells (cs.setIfInBounds j (.int .u8 ((dgt v).toNat : Int))) 151 (0, 0))) => run_convert_bytes_arg (P := Tryz.prog) W 22 5 Tryz.underlying22 Tryz.underlying5 w.heap.size j (65 - j) (65 - j) ((dgt v :: tl).map fun b => (b.toNat : Int)) (by rw [List.length_map]; exact hln)
        (fun q hq => by
          rw [blk_cell hW, hT2.out.2 q (by omega)]
          rw [List.getD_eq_getElem?_getD, List.getD_eq_getElem?_getD, List.getElem?_map]
          have : q < (dgt v :: tl).length := by omega
          rw [List.getElem?_eq_getElem this]
          rfl) 9 Tryz.underlying9
      have hcv1 := hcv _ hG2.out
      have hsl : ∀ W : World, (Instr.sliceAt 151 (.pointer (some ⟨w.heap.size, 0, none⟩)) (some (.int .i64 j)) none none).run Tryz.prog W = .ok (.slice (some ⟨w.heap.size, j, none⟩) (65 - j) (65 - j)) W := by
        intro W
        have e1 : Tryz.prog.arrayLen 151 = 65 := by kernel_rfl
        have e2 : (sizeOf (Tryz.prog.elem 151)).run Tryz.prog W = .ok 1 W := by kernel_rfl
        have e3 := run_sliceAt_array_l (P := Tryz.prog) W 151 ⟨w.heap.size, 0, none⟩ Tryz.underlying151 .i64 (j : Int) g1 (by rw [e1]; omega)
        rw [e3, e2]
        have e4 : ¬ (65 = j) := by omega
        simp [Result.andThen, slicedAt, e1, e4, Addr.add]
        exact fun h => h.symm
      have hstr : Aside0 ((strOfNums ((dgt v :: tl).map fun b => (b.toNat : Int))) = ⟨(digs 16 u).toArray⟩) := ⟨by
        rw [hD2.out]
        unfold strOfNums
        rw [List.map_map]
        have : ((fun n : Int => UInt8.ofNat n.toNat) ∘ fun b : UInt8 => (b.toNat : Int)) = id := by
          funext b
          simp
        rw [this, List.map_id]⟩
      generalize hxs : ((dgt v :: tl).map fun b => (b.toNat : Int)) = xs at *
      clear hk hj64 hcv hln
      go_wp2_with (fail)
      go_ret2
      exact ⟨by rw [← hstr.out]; rfl, below_set hB.out (Nat.le_refl _)⟩

set_option maxHeartbeats 1000000 in
set_option maxRecDepth 100000 in
theorem fmt16 (u : Nat) (hu : u < 4294967296) (w : World) (h : w.cell? ⟨8, 15, none⟩ = some (.int .u8 4)) :
    Calls Tryz.prog 61 #[.int .u64 u, .int .i64 16] w fun e w' => e = .returned (.string ⟨(digs 16 u).toArray⟩) ∧ Below w.heap.size w w' := by
  have hin : Calls Tryz.prog 76 #[.int .u64 u, .int .i64 16] w fun e w' => e = .returned (.string ⟨(digs 16 u).toArray⟩) ∧ Below w.heap.size w w' := by
    go_enter Tryz.func76, Tryz.ntmps76
    go_wp2_with (fail)
    refine (bits16 u hu w h).mono ?_
    rintro e w1 ⟨rfl, hb⟩
    go_wp2_with (fail)
    go_ret
    exact ⟨rfl, hb⟩
  go_enter Tryz.func61, Tryz.ntmps61
  go_wp2_with (fail)
  refine hin.mono ?_
  rintro e w1 ⟨rfl, hb⟩
  go_wp2_with (fail)
  go_ret
  exact ⟨rfl, hb⟩

end Go.Proofs.YtbiogabekhegaaaGreatDoor.Hand
