/- strconv.FormatUint to the base 16. -/
import Derived.Test.YtbiogabekhegaaaGreatDoorHandPlain
import Derived.Test.YtbiogabekhegaaaGreatDoorHandLaid
import Derived.Test.YtbiogabekhegaaaGreatDoorWMore
import Derived.Laws.BytesArg
import Derived.Laws.BitsAllLaws
import Derived.Deep.LoopGhost
import Derived.BigQuiet
import Derived.Deep.QuietTactic
import Derived.Lib.Strings
import Derived.Lib.Walk
import Derived.Lib.ConvBytes
import Derived.Lib.AtoiErrMem
import Derived.Lib.Hide
import Derived.Laws.Strings3
import Derived.Laws.Closers25
import Derived.Laws.Closers25b
import Derived.WalkKit
import Derived.BigCall
import Derived.BigGuard
import Derived.Test.YtbiogabekhegaaaGreatDoorHandShelf
import Derived.Lib.SmallJoins
import Derived.Deep.RegionHeld3
import Derived.Lib.ItoaLen
import Derived.Lib.AppendIntMem
namespace Go.Proofs.YtbiogabekhegaaaGreatDoor.Hand
open Go.RowKit Go.Proofs.YtbiogabekhegaaaGreatDoorW.PrintWords Go.Proofs.YtbiogabekhegaaaGreatDoorW.PrintLast
set_option linter.unusedVariables false
set_option linter.unusedSimpArgs false

set_option maxHeartbeats 1000000 in
set_option maxRecDepth 100000 in
theorem tz16 (w : World) (h : w.cell? ⟨8, 15, none⟩ = some (.int .u8 4)) : Calls Tryz.prog 121 #[.int .u64 16] w fun e w' => e = .returned (.int .i64 4) ∧ w' = w := by
  have h64 : Calls Tryz.prog 128 #[.int .u64 16] w fun e w' => e = .returned (.int .i64 4) ∧ w' = w := by
    have b1 : bits .and .u64 16 18446744073709551600 = 16 := by decide
    have b2 : IntKind.u64.wrap (-16) = 18446744073709551600 := by decide
    have b3 : IntKind.u64.wrap 4573923408821661840 = 4573923408821661840 := by decide
    go_enter Tryz.func128, Tryz.ntmps128
    go_wp2_with (fail)
    go_ret
    exact ⟨rfl, rfl⟩
  go_enter Tryz.func121, Tryz.ntmps121
  go_wp2_with (fail)
  refine h64.mono ?_
  rintro e w' ⟨rfl, rfl⟩
  go_wp2_with (fail)
  go_ret
  exact ⟨rfl, rfl⟩
set_option maxHeartbeats 1000000 in
set_option maxRecDepth 100000 in
theorem pow2 (w : World) : Calls Tryz.prog 120 #[.int .i64 16] w fun e w' => e = .returned (.bool true) ∧ w' = w := by
  have b1 : bits .and .i64 16 15 = 0 := by decide
  go_enter Tryz.func120, Tryz.ntmps120
  go_wp2_with (fail)
  go_ret
  exact ⟨rfl, rfl⟩

set_option maxRecDepth 100000 in
theorem ix36 (d : Nat) (hd : d < 16) (w : World) : (Instr.index 9 (.string ⟨#[48, 49, 50, 51, 52, 53, 54, 55, 56, 57, 97, 98, 99, 100, 101, 102, 103, 104, 105, 106, 107, 108, 109, 110, 111, 112, 113, 114, 115, 116, 117, 118, 119, 120, 121, 122]⟩) (.int .u64 d)).run Tryz.prog w = .ok (.int .u8 (dgt d).toNat) w := by
  match d, hd with
  | 0, _ => rfl
  | 1, _ => rfl
  | 2, _ => rfl
  | 3, _ => rfl
  | 4, _ => rfl
  | 5, _ => rfl
  | 6, _ => rfl
  | 7, _ => rfl
  | 8, _ => rfl
  | 9, _ => rfl
  | 10, _ => rfl
  | 11, _ => rfl
  | 12, _ => rfl
  | 13, _ => rfl
  | 14, _ => rfl
  | 15, _ => rfl
  | d + 16, h => omega
theorem and15 (v : Nat) (h : v < 18446744073709551616) : bits .and .u64 (v : Int) 15 = ((v % 16 : Nat) : Int) := by
  have := Go.u64_and_nat v 15 h (by omega)
  rw [show ((15 : Nat) : Int) = 15 from rfl] at this
  rw [this, show (15 : Nat) = 2 ^ 4 - 1 from rfl, Nat.and_two_pow_sub_one_eq_mod]
/-- The digits from place i on. -/
def Tail (cs : Array Value) (i : Nat) (tl : List UInt8) : Prop := tl.length + i = 65 ∧ ∀ j, j < tl.length → cs[i + j]? = some (.int .u8 ((tl.getD j 0).toNat : Int))
theorem tail_cons {cs : Array Value} {i : Nat} {tl : List UInt8} (h : Tail cs (i + 1) tl) (hs : cs.size = 65) (c : UInt8) : Tail (cs.setIfInBounds i (.int .u8 (c.toNat : Int))) i (c :: tl) := by
  refine ⟨by have := h.1; simp; omega, fun j hj => ?_⟩
  cases j with
  | zero =>
    rw [Nat.add_zero, Array.getElem?_setIfInBounds, if_pos rfl, if_pos (by have := h.1; omega)]
    rfl
  | succ j =>
    rw [Array.getElem?_setIfInBounds, if_neg (by omega)]
    have := h.2 j (by simpa using hj)
    rw [show i + (j + 1) = i + 1 + j by omega, this]
    rfl
theorem digs_ge (v : Nat) (h : 16 ≤ v) : digs 16 v = digs 16 (v / 16) ++ [dgt (v % 16)] := by
  rw [digs]
  rw [dif_neg (by omega)]
theorem digs_lt (v : Nat) (h : v < 16) : digs 16 v = [dgt v] := by
  rw [digs, dif_pos (.inl h)]

set_option maxHeartbeats 4000000 in
set_option maxRecDepth 100000 in
theorem bits16 (u : Nat) (hu : u < 4294967296) (w : World) (h : w.cell? ⟨8, 15, none⟩ = some (.int .u8 4)) :
    Calls Tryz.prog 101 #[.slice none 0 0, .int .u64 u, .int .i64 16, .bool false, .bool false] w fun e w' => e = .returned (.tuple #[.slice none 0 0, .string ⟨(digs 16 u).toArray⟩]) ∧ Below w.heap.size w w' := by
  have h' := h
  have hb := Aside0.mk (Below.refl w.heap.size w)
  go_enter Tryz.func101, Tryz.ntmps101
  have hz : Aside0 (Tryz.zeroCells151.size = 65) := ⟨by kernel_rfl⟩
  go_wp2_with (fail)
  refine (pow2 _).mono ?_
  rintro e w1 ⟨rfl, rfl⟩
  go_wp2_with (fail)
  refine (tz16 _ (World.cell?_alloc_past _ _ _ (World.block_lt_of_cell? w _ h) |>.trans h)).mono ?_
  rintro e w1 ⟨rfl, rfl⟩
  go_wp2_with (fail)
  have hB0 := Aside0.mk (below_alloc (Below.refl w.heap.size w) (.cells Tryz.zeroCells151 151))
  have hG0 : Aside0 ((w.alloc (.cells Tryz.zeroCells151 151)).heap[w.heap.size]? = some (.cells Tryz.zeroCells151 151 (0, 0))) := ⟨heap_alloc_new w _⟩
  clear h h' hb
  go_loopg [1, 13] 7 (fun kq v1 v13 w' => ∃ (v i : Nat) (tl : List UInt8) (cs : Array Value), v1 = .int .u64 v ∧ v13 = .int .i64 i ∧ Aside0 (v < 16 ^ (kq + 1) ∧ i = 58 + kq) ∧ Aside0 (w'.heap[w.heap.size]? = some (.cells cs 151 (0, 0))) ∧ Aside0 (cs.size = 65) ∧ Aside0 (Tail cs i tl) ∧ Aside0 (digs 16 u = digs 16 v ++ tl) ∧ Aside0 (Below w.heap.size w w'))
  case atStart => exact ⟨u, 65, [], _, rfl, rfl, ⟨by omega⟩, hG0, hz, ⟨rfl, fun j hj => absurd hj (by simp)⟩, ⟨by simp⟩, hB0⟩
  case round =>
    clear hz hB0 hG0
    obtain ⟨v, i, tl, cs, rfl, rfl, hk, hG, hz, hT, hD, hB⟩ := hrel
    obtain ⟨j, hj⟩ : ∃ j, i = j + 1 := ⟨i - 1, by have := hk.out.2; omega⟩
    subst hj
    have hj64 : j < 65 := by have := hT.out.1; omega
    have hwj : IntKind.i64.wrap (((j + 1 : Nat) : Int) - 1) = (j : Int) := by unfold IntKind.wrap; simp [IntKind.bits]; omega
    obtain ⟨x0, c0⟩ : ∃ x, wr.cell? ⟨w.heap.size, j, none⟩ = some x := ⟨_, (blk_cell hG.out j).trans (Array.getElem?_eq_getElem (by have := hz.out; omega))⟩
    have f0 := blk_frozen hG.out j
    have g1 : (0 : Int) ≤ (j : Int) := by omega
    have g2 : (j : Int) < 65 := by omega
    by_cases hv : 16 ≤ v
    · obtain ⟨k, rfl⟩ : ∃ k, gk = k + 1 := by
        cases gk with
        | zero => have := hk.out.1; omega
        | succ k => exact ⟨k, rfl⟩
      have hp : 16 ^ (k + 1 + 1) = 16 ^ (k + 1) * 16 := rfl
      have hv64 : v < 18446744073709551616 := by
        have h1 : 16 ^ (k + 1 + 1) ≤ 16 ^ 8 := Nat.pow_le_pow_right (by omega) (by have := hk.out.2; have := hT.out.1; omega)
        have h2 : (16 : Nat) ^ 8 = 4294967296 := by decide
        have := hk.out.1
        omega
      have hk2 := Aside0.mk (show v / 16 < 16 ^ (k + 1) ∧ j = 58 + k by have := hk.out; omega)
      have hT2 := Aside0.mk (tail_cons hT.out hz.out (dgt (v % 16)))
      have hD2 := Aside0.mk (show digs 16 u = digs 16 (v / 16) ++ (dgt (v % 16) :: tl) by rw [hD.out, digs_ge v hv, List.append_assoc]; rfl)
      have f1 : (16 : Int) ≤ (v : Int) := by omega
      have ba := and15 v hv64
      have hx := fun w => ix36 (v % 16) (by omega) w
      clear hk hv hv64 hp hj64
      generalize v % 16 = d at *
      go_wp2_with (fail)
      go_roundg k
      case measure => omega
      case rel => exact ⟨v / 16, j, _, _, by simp, rfl, hk2, ⟨blk_put hG.out j _ rfl⟩, ⟨by rw [Array.size_setIfInBounds]; exact hz.out⟩, hT2, hD2, ⟨below_set hB.out (Nat.le_refl _)⟩⟩
    · have f1 : decide ((16 : Int) ≤ (v : Int)) = false := decide_eq_false (by omega)
      have hx := fun w => ix36 v (by omega) w
      have hT2 := Aside0.mk (tail_cons hT.out hz.out (dgt v))
      have hD2 := Aside0.mk (show digs 16 u = dgt v :: tl by rw [hD.out, digs_lt v (by omega)]; rfl)
      have hG2 : Aside0 ((wr.setCell ⟨w.heap.size, j, none⟩ (.int .u8 ((dgt v).toNat : Int))).heap[w.heap.size]? = some (.cells (cs.setIfInBounds j (.int .u8 ((dgt v).toNat : Int))) 151 (0, 0))) := ⟨blk_put hG.out j _ rfl⟩
      have hln : (dgt v :: tl).length = 65 - j := by have := hT2.out.1; omega
      have hcv := fun (W : World) (hW : W.heap[w.heap.size]? = some (.cells (cs.setIfInBounds j (.int .u8 ((dgt v).toNat : Int))) 151 (0, 0))) => run_convert_bytes_arg (P := Tryz.prog) W 22 5 Tryz.underlying22 Tryz.underlying5 w.heap.size j (65 - j) (65 - j) ((dgt v :: tl).map fun b => (b.toNat : Int)) (by rw [List.length_map]; exact hln)
        (fun q hq => by
          rw [blk_cell hW, hT2.out.2 q (by omega)]
          rw [List.getD_eq_getElem?_getD, List.getD_eq_getElem?_getD, List.getElem?_map]
          have : q < (dgt v :: tl).length := by omega
          rw [List.getElem?_eq_getElem this]
          rfl) 9 Tryz.underlying9
      have hcv1 := hcv _ hG2.out
      have hsl : ∀ W : World, (Instr.sliceAt 151 (.pointer (some ⟨w.heap.size, 0, none⟩)) (some (.int .i64 j)) none none).run Tryz.prog W = .ok (.slice (some ⟨w.heap.size, j, none⟩) (65 - j) (65 - j)) W := by
        intro W
        have e1 : Tryz.prog.arrayLen 151 = 65 := by kernel_rfl
        have e2 : (sizeOf (Tryz.prog.elem 151)).run Tryz.prog W = .ok 1 W := by kernel_rfl
        have e3 := run_sliceAt_array_l (P := Tryz.prog) W 151 ⟨w.heap.size, 0, none⟩ Tryz.underlying151 .i64 (j : Int) g1 (by rw [e1]; omega)
        rw [e3, e2]
        have e4 : ¬ (65 = j) := by omega
        simp [Result.andThen, slicedAt, e1, e4, Addr.add]
        exact fun h => h.symm
      have hstr : Aside0 ((strOfNums ((dgt v :: tl).map fun b => (b.toNat : Int))) = ⟨(digs 16 u).toArray⟩) := ⟨by
        rw [hD2.out]
        unfold strOfNums
        rw [List.map_map]
        have : ((fun n : Int => UInt8.ofNat n.toNat) ∘ fun b : UInt8 => (b.toNat : Int)) = id := by
          funext b
          simp
        rw [this, List.map_id]⟩
      generalize hxs : ((dgt v :: tl).map fun b => (b.toNat : Int)) = xs at *
      clear hk hj64 hcv hln
      go_wp2_with (fail)
      go_ret2
      exact ⟨by rw [← hstr.out]; rfl, below_set hB.out (Nat.le_refl _)⟩

set_option maxHeartbeats 1000000 in
set_option maxRecDepth 100000 in
theorem fmt16 (u : Nat) (hu : u < 4294967296) (w : World) (h : w.cell? ⟨8, 15, none⟩ = some (.int .u8 4)) :
    Calls Tryz.prog 61 #[.int .u64 u, .int .i64 16] w fun e w' => e = .returned (.string ⟨(digs 16 u).toArray⟩) ∧ Below w.heap.size w w' := by
  have hin : Calls Tryz.prog 76 #[.int .u64 u, .int .i64 16] w fun e w' => e = .returned (.string ⟨(digs 16 u).toArray⟩) ∧ Below w.heap.size w w' := by
    go_enter Tryz.func76, Tryz.ntmps76
    go_wp2_with (fail)
    refine (bits16 u hu w h).mono ?_
    rintro e w1 ⟨rfl, hb⟩
    go_wp2_with (fail)
    go_ret
    exact ⟨rfl, hb⟩
  go_enter Tryz.func61, Tryz.ntmps61
  go_wp2_with (fail)
  refine hin.mono ?_
  rintro e w1 ⟨rfl, hb⟩
  go_wp2_with (fail)
  go_ret
  exact ⟨rfl, hb⟩

end Go.Proofs.YtbiogabekhegaaaGreatDoor.Hand

namespace Go.Proofs.YtbiogabekhegaaaGreatDoor.Hand
open Go.RowKit
set_option linter.unusedVariables false
set_option linter.unusedSimpArgs false

/-- A byte, its bit 32 set. -/
def low (c : UInt8) : Nat := (bits .or .u8 (c.toNat : Int) 32).toNat
theorem low_eq (c : UInt8) : bits .or .u8 (c.toNat : Int) 32 = (low c : Int) := by
  have := bits_lo_u8 .or (c.toNat : Int) 32
  unfold low; omega
theorem low_lt (c : UInt8) : low c < 256 := by
  have := bits_hi_u8 .or (c.toNat : Int) 32
  unfold low; omega
/-- A byte's value as a digit to the base 16; 16: it is none. -/
def hexd (c : UInt8) : Nat := if 48 ≤ c.toNat ∧ c.toNat ≤ 57 then c.toNat - 48 else if 97 ≤ low c ∧ low c ≤ 102 then low c - 87 else 16
/-- What ParseUint of the base 16 and 32 bits answers, acc of it read: the number, and the error's number. -/
def p16 : Nat → List UInt8 → Nat × Int
  | acc, [] => (acc, 0)
  | acc, c :: r => if hexd c < 16 then (if 4294967295 < acc * 16 + hexd c then (4294967295, 1) else p16 (acc * 16 + hexd c) r) else (0, 2)
def errI (k : Int) : Value := if k = 0 then .nilIface else .iface 136 (.int .i64 k)

theorem lower_ok (c : Int) (w : World) : Calls Tryz.prog 103 #[.int .u8 c] w fun e w' => e = .returned (.int .u8 (bits .or .u8 c 32)) ∧ w' = w := by
  go_enter Tryz.func103, Tryz.ntmps103
  go_wp2
  go_ret
  exact ⟨rfl, rfl⟩

set_option maxHeartbeats 32000000 in
set_option maxRecDepth 100000 in
theorem parse16_in (t : ByteArray) (hne : t.size ≠ 0) (hmax : t.size ≤ 9223372036854775806) (w : World) :
    Calls Tryz.prog 79 #[.string t, .int .i64 16, .int .i64 32] w fun e w' => e = .returned (.tuple #[.int .u64 (p16 0 t.data.toList).1, errI (p16 0 t.data.toList).2]) ∧ w' = Lib.bytesWorld w 5 t := by
  have hemp : t.toList.isEmpty = false := by
    rw [← decide_eq_emptyBytes]
    exact decide_eq_false (fun h => hne (by rw [h]; rfl))
  have hcv := Lib.run_convert_string_bytes (P := Tryz.prog) w 9 22 5 t (u := .string) Tryz.underlying9 Tryz.underlying22 Tryz.underlying5
  have hB : ∀ j, j < t.size → (Lib.bytesWorld w 5 t).cell? ⟨w.heap.size, j, none⟩ = some (.int .u8 (t.data.toList.getD j 0).toNat) := fun j hj => Lib.bytesWorld_cell w 5 t j hj
  obtain ⟨W1, hW1⟩ : ∃ W1, W1 = Lib.bytesWorld w 5 t := ⟨_, rfl⟩
  rw [← hW1] at hcv hB ⊢
  clear hW1
  obtain ⟨bs, hL⟩ : ∃ bs, bs = t.data.toList := ⟨_, rfl⟩
  have hLn : bs.length = t.size := by rw [hL, Lib.size_eq]
  rw [← hL] at hB ⊢
  clear hL
  have hmv : IntKind.u64.wrap (IntKind.u64.wrap 4294967296 - 1) = 4294967295 := by
    rw [IntKind.wrap_u64, IntKind.wrap_u64]
    decide
  go_enter Tryz.func79, Tryz.ntmps79
  go_wp2
  go_loop [12, 13, 101] (fun vu vn vi => ∃ (k acc : Nat) (a : Int), vu = .bool false ∧ vn = .int .u64 a ∧ vi = .int .i64 k ∧ k ≤ t.size ∧ Hid (a = (acc : Int) ∧ acc ≤ 4294967295 ∧ p16 0 bs = p16 acc (bs.drop k)))
    (fun _ _ vi => t.size - (intOf vi).toNat)
  case atStart => exact ⟨0, 0, 0, rfl, rfl, rfl, by omega, rfl, by omega, rfl⟩
  case round =>
    obtain ⟨k, acc, a, rfl, rfl, rfl, hk, hh⟩ := hrel
    obtain ⟨ha, hacc, hdec⟩ := hh.out
    clear hh
    have a0 : 0 ≤ a := by omega
    have a1 : a ≤ 4294967295 := by omega
    by_cases hkn : k < t.size
    · have hc := hB k hkn
      have hdrop : bs.drop k = bs[k]'(by omega) :: bs.drop (k + 1) := List.drop_eq_getElem_cons (by omega)
      have hget : bs.getD k 0 = bs[k]'(by omega) := by simp [List.getD, List.getElem?_eq_getElem (show k < bs.length by omega)]
      rw [hdrop] at hdec
      rw [hget] at hc
      generalize bs[k]'(by omega) = c at hc hdec
      have hc256 : c.toNat < 256 := c.toNat_lt
      have hlo := low_eq c
      have hl256 := low_lt c
      clear hB hdrop hget
      by_cases hdig : 48 ≤ c.toNat ∧ c.toNat ≤ 57
      · have hx : hexd c = c.toNat - 48 := by unfold hexd; rw [if_pos hdig]
        obtain ⟨hd0, hd1⟩ := hdig
        rw [p16, hx, if_pos (by omega)] at hdec
        clear hlo hl256 hx
        by_cases hov : 4294967295 < acc * 16 + (c.toNat - 48)
        · rw [if_pos hov] at hdec
          have iov : 4294967295 < a * 16 + ((c.toNat : Int) - 48) := by omega
          have HD := Lib.hid hdec
          clear hacc hov ha hdec
          go_wp2
          go_ret2
          exact ⟨by rw [HD.out]; rfl, rfl⟩
        · rw [if_neg hov] at hdec
          have HN : Hid (a * 16 + ((c.toNat : Int) - 48) = ((acc * 16 + (c.toNat - 48) : Nat) : Int) ∧ acc * 16 + (c.toNat - 48) ≤ 4294967295 ∧ p16 0 bs = p16 (acc * 16 + (c.toNat - 48)) (bs.drop (k + 1))) := Lib.hid ⟨by omega, by omega, hdec⟩
          have iov : a * 16 + ((c.toNat : Int) - 48) ≤ 4294967295 := by omega
          clear hacc hov hdec ha
          go_wp2
          refine ⟨⟨k + 1, acc * 16 + (c.toNat - 48), a * 16 + ((c.toNat : Int) - 48), rfl, (by first | rfl | (congr 1; omega)), (by first | rfl | (congr 1; omega)), by omega, HN⟩, by simp [intOf]; omega⟩
      · by_cases hlet : 97 ≤ low c ∧ low c ≤ 102
        · have hx : hexd c = low c - 87 := by unfold hexd; rw [if_neg hdig, if_pos hlet]
          have h95 : (c.toNat : Int) ≠ 95 := by
            intro h
            have h2 : c = 95 := UInt8.toNat_inj.mp (by show c.toNat = 95; omega)
            subst h2
            revert hlet
            decide
          obtain ⟨hd0, hd1⟩ := hlet
          rw [p16, hx, if_pos (by omega)] at hdec
          clear hx
          by_cases hov : 4294967295 < acc * 16 + (low c - 87)
          · rw [if_pos hov] at hdec
            have iov : 4294967295 < a * 16 + ((low c : Int) - 87) := by omega
            have HD := Lib.hid hdec
            clear hacc hov ha hdec
            go_wp2_with (go_at_call 103; refine (lower_ok _ _).mono ?_; rintro e w' ⟨rfl, rfl⟩; rw [hlo])
            all_goals go_ret2
            all_goals exact ⟨by rw [HD.out]; rfl, rfl⟩
          · rw [if_neg hov] at hdec
            have HN : Hid (a * 16 + ((low c : Int) - 87) = ((acc * 16 + (low c - 87) : Nat) : Int) ∧ acc * 16 + (low c - 87) ≤ 4294967295 ∧ p16 0 bs = p16 (acc * 16 + (low c - 87)) (bs.drop (k + 1))) := Lib.hid ⟨by omega, by omega, hdec⟩
            have iov : a * 16 + ((low c : Int) - 87) ≤ 4294967295 := by omega
            clear hacc hov hdec ha
            go_wp2_with (go_at_call 103; refine (lower_ok _ _).mono ?_; rintro e w' ⟨rfl, rfl⟩; rw [hlo])
            all_goals (refine ⟨⟨k + 1, acc * 16 + (low c - 87), a * 16 + ((low c : Int) - 87), rfl, (by first | rfl | (congr 1; omega)), (by first | rfl | (congr 1; omega)), by omega, HN⟩, by simp [intOf]; omega⟩)
        · have hx : hexd c = 16 := by unfold hexd; rw [if_neg hdig, if_neg hlet]
          rw [p16, hx, if_neg (by omega)] at hdec
          have HD := Lib.hid hdec
          have hu : bits .or .u8 95 32 = 127 := by decide
          clear hacc ha hx hdec
          go_wp2_with (go_at_call 103; refine (lower_ok _ _).mono ?_; rintro e w' ⟨rfl, rfl⟩; first | rw [hlo] | rw [hu])
          all_goals go_ret2
          all_goals exact ⟨by rw [HD.out]; rfl, rfl⟩
    · have hkk : k = t.size := by omega
      subst hkk
      have hF : p16 acc (bs.drop t.size) = (acc, 0) := by rw [List.drop_eq_nil_of_le (by omega)]; rfl
      rw [hF] at hdec
      subst ha
      have HD := Lib.hid hdec
      clear hacc hF a0 a1 hdec
      go_wp2
      go_ret2
      exact ⟨by rw [HD.out]; rfl, rfl⟩

set_option maxHeartbeats 4000000 in
set_option maxRecDepth 100000 in
theorem parse16_empty (w : World) :
    Calls Tryz.prog 79 #[.string ⟨#[]⟩, .int .i64 16, .int .i64 32] w fun e w' => e = .returned (.tuple #[.int .u64 0, errI 2]) ∧ w' = w := by
  go_enter Tryz.func79, Tryz.ntmps79
  go_wp2
  go_ret2
  exact ⟨rfl, rfl⟩

end Go.Proofs.YtbiogabekhegaaaGreatDoor.Hand

namespace Go.Proofs.YtbiogabekhegaaaGreatDoor.Hand
open Go.RowKit Go.Proofs.YtbiogabekhegaaaGreatDoorW.PrintWords Go.Proofs.YtbiogabekhegaaaGreatDoorW.PrintLast
set_option linter.unusedVariables false
set_option linter.unusedSimpArgs false

def nameL : List (List UInt8) := [[101, 99, 104, 111], [99, 97, 110, 111, 110], [115, 105, 103, 110, 97, 108, 115], [101, 120, 116, 101, 110, 100], [102, 108, 111, 119], [99, 114, 116, 111, 110, 108], [112, 111, 115, 116]]
def nm (j : Nat) : ByteArray := ⟨(nameL.getD j []).toArray⟩
def NamesIn (w : World) : Prop := ∀ j, j < 7 → w.cell? ⟨0, j, none⟩ = some (.string (nm j))
theorem gPow : Tryz.prog.globalNamed "internal/strconv.uint64pow10" = some 2 := by kernel_rfl
structure TabT (w : World) : Prop where
  nm : NamesIn w
  pow : Lib.TabIs Tryz.prog w "internal/strconv.uint64pow10" .u64 Lib.pow10Tab
  tz : w.cell? ⟨8, 15, none⟩ = some (.int .u8 4)
theorem cell_stays {W W' : World} {p : Addr} {v : Value} (h : W.cell? p = some v) (hb : Below W.heap.size W W') : W'.cell? p = some v := (hb.cell (World.block_lt_of_cell? W _ h)).trans h
theorem TabT.below {w W : World} (h : TabT w) (hb : Below w.heap.size w W) : TabT W := ⟨fun j hj => cell_stays (h.nm j hj) hb, Joins.tab_stays gPow h.pow hb (Nat.le_refl _), cell_stays h.tz hb⟩
/-- The flags' names, of the first j. -/
def flagL (fl : Nat) : Nat → List ByteArray
  | 0 => []
  | j + 1 => if fl / 2 ^ j % 2 = 1 then flagL fl j ++ [nm j] else flagL fl j
set_option maxRecDepth 100000 in
theorem tix_0 (w : World) : (Instr.index 98 (.agg #[.string ⟨#[101, 99, 104, 111]⟩, .string ⟨#[99, 97, 110, 111, 110]⟩, .string ⟨#[115, 105, 103, 110, 97, 108, 115]⟩, .string ⟨#[101, 120, 116, 101, 110, 100]⟩, .string ⟨#[102, 108, 111, 119]⟩, .string ⟨#[99, 114, 116, 111, 110, 108]⟩, .string ⟨#[112, 111, 115, 116]⟩]) (.int .i64 0)).run Tryz.prog w = .ok (.string ⟨#[101, 99, 104, 111]⟩) w := by rfl
set_option maxRecDepth 100000 in
theorem tix_1 (w : World) : (Instr.index 98 (.agg #[.string ⟨#[101, 99, 104, 111]⟩, .string ⟨#[99, 97, 110, 111, 110]⟩, .string ⟨#[115, 105, 103, 110, 97, 108, 115]⟩, .string ⟨#[101, 120, 116, 101, 110, 100]⟩, .string ⟨#[102, 108, 111, 119]⟩, .string ⟨#[99, 114, 116, 111, 110, 108]⟩, .string ⟨#[112, 111, 115, 116]⟩]) (.int .i64 1)).run Tryz.prog w = .ok (.string ⟨#[99, 97, 110, 111, 110]⟩) w := by rfl
set_option maxRecDepth 100000 in
theorem tix_2 (w : World) : (Instr.index 98 (.agg #[.string ⟨#[101, 99, 104, 111]⟩, .string ⟨#[99, 97, 110, 111, 110]⟩, .string ⟨#[115, 105, 103, 110, 97, 108, 115]⟩, .string ⟨#[101, 120, 116, 101, 110, 100]⟩, .string ⟨#[102, 108, 111, 119]⟩, .string ⟨#[99, 114, 116, 111, 110, 108]⟩, .string ⟨#[112, 111, 115, 116]⟩]) (.int .i64 2)).run Tryz.prog w = .ok (.string ⟨#[115, 105, 103, 110, 97, 108, 115]⟩) w := by rfl
set_option maxRecDepth 100000 in
theorem tix_3 (w : World) : (Instr.index 98 (.agg #[.string ⟨#[101, 99, 104, 111]⟩, .string ⟨#[99, 97, 110, 111, 110]⟩, .string ⟨#[115, 105, 103, 110, 97, 108, 115]⟩, .string ⟨#[101, 120, 116, 101, 110, 100]⟩, .string ⟨#[102, 108, 111, 119]⟩, .string ⟨#[99, 114, 116, 111, 110, 108]⟩, .string ⟨#[112, 111, 115, 116]⟩]) (.int .i64 3)).run Tryz.prog w = .ok (.string ⟨#[101, 120, 116, 101, 110, 100]⟩) w := by rfl
set_option maxRecDepth 100000 in
theorem tix_4 (w : World) : (Instr.index 98 (.agg #[.string ⟨#[101, 99, 104, 111]⟩, .string ⟨#[99, 97, 110, 111, 110]⟩, .string ⟨#[115, 105, 103, 110, 97, 108, 115]⟩, .string ⟨#[101, 120, 116, 101, 110, 100]⟩, .string ⟨#[102, 108, 111, 119]⟩, .string ⟨#[99, 114, 116, 111, 110, 108]⟩, .string ⟨#[112, 111, 115, 116]⟩]) (.int .i64 4)).run Tryz.prog w = .ok (.string ⟨#[102, 108, 111, 119]⟩) w := by rfl
set_option maxRecDepth 100000 in
theorem tix_5 (w : World) : (Instr.index 98 (.agg #[.string ⟨#[101, 99, 104, 111]⟩, .string ⟨#[99, 97, 110, 111, 110]⟩, .string ⟨#[115, 105, 103, 110, 97, 108, 115]⟩, .string ⟨#[101, 120, 116, 101, 110, 100]⟩, .string ⟨#[102, 108, 111, 119]⟩, .string ⟨#[99, 114, 116, 111, 110, 108]⟩, .string ⟨#[112, 111, 115, 116]⟩]) (.int .i64 5)).run Tryz.prog w = .ok (.string ⟨#[99, 114, 116, 111, 110, 108]⟩) w := by rfl
set_option maxRecDepth 100000 in
theorem tix_6 (w : World) : (Instr.index 98 (.agg #[.string ⟨#[101, 99, 104, 111]⟩, .string ⟨#[99, 97, 110, 111, 110]⟩, .string ⟨#[115, 105, 103, 110, 97, 108, 115]⟩, .string ⟨#[101, 120, 116, 101, 110, 100]⟩, .string ⟨#[102, 108, 111, 119]⟩, .string ⟨#[99, 114, 116, 111, 110, 108]⟩, .string ⟨#[112, 111, 115, 116]⟩]) (.int .i64 6)).run Tryz.prog w = .ok (.string ⟨#[112, 111, 115, 116]⟩) w := by rfl
theorem andnot127 (x : Nat) (h : x < 4294967296) : bits .andNot .u32 (x : Int) 127 = ((x - x % 128 : Nat) : Int) := by
  have key : ∀ y : BitVec 32, y &&& ~~~(127#32) = (y >>> 7) <<< 7 := by
    intro y
    have hm : ∀ i : Nat, i < 32 → (~~~(127#32)).getLsbD i = decide (7 ≤ i) := by decide
    apply BitVec.eq_of_getLsbD_eq
    intro i hi
    rw [BitVec.getLsbD_and, hm i hi, BitVec.getLsbD_shiftLeft, BitVec.getLsbD_ushiftRight]
    by_cases h7 : 7 ≤ i
    · simp [h7, hi, show 7 + (i - 7) = i by omega, show ¬ i < 7 by omega]
    · simp [h7, show i < 7 by omega]
  show IntKind.u32.wrap ((BitVec.ofInt 32 (x : Int) &&& ~~~(BitVec.ofInt 32 127)).toNat : Int) = _
  rw [show BitVec.ofInt 32 127 = 127#32 from rfl, key, BitVec.toNat_shiftLeft, BitVec.toNat_ushiftRight, BitVec.toNat_ofInt, IntKind.wrap_u32', Nat.shiftLeft_eq, Nat.shiftRight_eq_div_pow]
  omega
theorem info9 : (Tryz.prog.info? 9).map (fun i => (i.zero, i.size, i.bytes)) = some (some (.string ⟨#[]⟩), 1, 16) := by kernel_rfl
theorem and1 (x : Nat) (h : x < 4294967296) : bits .and .u32 (x : Int) 1 = ((x % 2 : Nat) : Int) := by
  have := Go.u32_and_nat x 1 h (by omega)
  rw [show ((1 : Nat) : Int) = 1 from rfl] at this
  rw [this, show (1 : Nat) = 2 ^ 1 - 1 from rfl, Nat.and_two_pow_sub_one_eq_mod]
/-- What is left of the flags, beside the seven names. -/
def restL (r : Nat) : List ByteArray := if r = 0 then [] else [⟨(120 :: digs 16 r).toArray⟩]
def allL (fl : Nat) : List ByteArray := flagL fl 7 ++ restL (fl - fl % 128)
def partL (fl : Nat) : List ByteArray := if (allL fl).length = 0 then [⟨#[45]⟩] else allL fl
def joinV (xs : List ByteArray) : ByteArray := ⟨(Lib.join (xs.map (·.data.toList)) [43]).toArray⟩
def itoaV (n : Nat) : ByteArray := ⟨(Lib.itoa n).toArray⟩
def wordsV (a b c : ByteArray) : ByteArray := ⟨(Lib.join [a.data.toList, b.data.toList, c.data.toList] [32]).toArray⟩
def textV (fl mn tm : Nat) : ByteArray := wordsV (joinV (partL fl)) (itoaV mn) (itoaV tm)
def Small (xs : List ByteArray) : Prop := xs.length ≤ 8 ∧ ∀ x, x ∈ xs → x.data.toList.length ≤ 20
theorem lens_le (l : List (List UInt8)) (h : ∀ x, x ∈ l → x.length ≤ 20) : Lib.lens l ≤ 20 * l.length := by
  induction l with
  | nil => simp [Lib.lens]
  | cons a r ih =>
    have h1 := h a List.mem_cons_self
    have h2 := ih (fun x hx => h x (List.mem_cons_of_mem _ hx))
    simp only [Lib.lens, List.map_cons, List.sum_cons, List.length_cons, List.flatten_cons, List.length_append] at *
    omega
theorem join_le (l : List (List UInt8)) (b : UInt8) (h8 : l.length ≤ 8) (h : ∀ x, x ∈ l → x.length ≤ 20) : (Lib.join l [b]).length ≤ 1000 := by
  cases l with
  | nil => simp [Lib.join_nil]
  | cons a r =>
    rw [Lib.join_length]
    have := lens_le (a :: r) h
    simp only [List.length_cons, List.length_nil] at *
    omega
theorem small_join {xs : List ByteArray} (h : Small xs) (b : UInt8) : (Lib.join (xs.map (·.data.toList)) [b]).length ≤ 1000 :=
  join_le _ b (by simpa using h.1) (by intro x hx; obtain ⟨y, hy, rfl⟩ := List.mem_map.mp hx; exact h.2 y hy)
theorem flag_small (fl : Nat) : ∀ j, j ≤ 7 → (flagL fl j).length ≤ j ∧ ∀ x, x ∈ flagL fl j → x.data.toList.length ≤ 20 := by
  intro j
  induction j with
  | zero => intro _; exact ⟨Nat.le_refl _, fun x hx => by simp [flagL] at hx⟩
  | succ j ih =>
    intro hj
    obtain ⟨h1, h2⟩ := ih (by omega)
    have hnm : ∀ j, j < 7 → (nm j).data.toList.length ≤ 20 := by decide
    unfold flagL
    split
    · refine ⟨by simp; omega, fun x hx => ?_⟩
      rcases List.mem_append.mp hx with hx | hx
      · exact h2 x hx
      · rw [List.mem_singleton.mp hx]; exact hnm j (by omega)
    · exact ⟨by omega, h2⟩
theorem digs16_len (n u : Nat) (h0 : 0 < n) (h : u < 16 ^ n) : (digs 16 u).length ≤ n := by
  induction n generalizing u with
  | zero => omega
  | succ n ih =>
    by_cases hu : u < 16
    · rw [digs_lt u hu]; simp
    · rw [digs_ge u (by omega), List.length_append]
      have hn : 0 < n := by
        rcases Nat.eq_zero_or_pos n with rfl | hn
        · simp at h; omega
        · exact hn
      have := ih (u / 16) hn (by rw [Nat.pow_succ] at h; omega)
      simp; omega
theorem all_small (fl : Nat) (h : fl < 4294967296) : Small (allL fl) := by
  obtain ⟨h1, h2⟩ := flag_small fl 7 (Nat.le_refl _)
  unfold allL restL
  have hd := digs16_len 8 (fl - fl % 128) (by omega) (by omega)
  split
  · rw [List.append_nil]; exact ⟨by omega, h2⟩
  · refine ⟨by simp; omega, fun x hx => ?_⟩
    rcases List.mem_append.mp hx with hx | hx
    · exact h2 x hx
    · rw [List.mem_singleton.mp hx]; simp; omega
theorem cells_of {W : World} {g n : Nat} {xs : List ByteArray} (hC : Kd.string.C W (some ⟨g, 0, none⟩) n xs) (hn : xs.length = n) : ∀ (j : Nat) x, xs[j]? = some x → W.cell? ⟨g, 0 + j, none⟩ = some (.string x) := by
  intro j x hx
  have hj := (List.getElem?_eq_some_iff.mp hx).1
  obtain ⟨ad, he, h⟩ := Kd.at_string hC j (by omega) (by omega)
  injection he with he; subst he
  have h2 : W.cell? ⟨g, 0 + j, none⟩ = some (.string (rdOf ByteArray.empty xs j)) := by
    rw [Int.toNat_natCast] at h
    have ha : (⟨g, 0, none⟩ : Addr).add j = ⟨g, 0 + j, none⟩ := by
      unfold Addr.add
      split
      · rename_i h0; rw [h0]
      · rfl
    rw [ha] at h; exact h
  rw [h2]; simp [rdOf, hx]
theorem join_ok (xs : List ByteArray) (g cp n : Nat) (Wx : World) (hn : xs.length = n) (hcp : n ≤ cp) (hc : ∀ (j : Nat) x, xs[j]? = some x → Wx.cell? ⟨g, 0 + j, none⟩ = some (.string x)) (hg : g < Wx.heap.size) (hs : Small xs) (w' : World) (hb : Below Wx.heap.size Wx w') :
    Calls Tryz.prog 44 #[.slice (some ⟨g, 0, none⟩) n cp, .string ⟨#[43]⟩] w' fun e w'' => e = .returned (.string (joinV xs)) ∧ Below w'.heap.size w' w'' := by
  subst hn
  have h8 := hs.1
  have hl := small_join hs 43
  exact Tryz.strings_Join g 0 cp xs ⟨#[43]⟩ w' (fun j x hx => cell_stays (hc j x hx) hb) (Nat.lt_of_lt_of_le hg hb.size) (by omega) hcp (by show (Lib.join (xs.map (·.data.toList)) [43]).length ≤ _; omega)
theorem itoa_ok (n : Nat) (hn : n < 256) {w w' : World} (HT : TabT w) (hb : Below w.heap.size w w') :
    Calls Tryz.prog 46 #[.int .i64 n] w' fun e w'' => e = .returned (.string (itoaV n)) ∧ Below w'.heap.size w' w'' := by
  refine (Tryz.strconv_Itoa n (by omega) (by omega) w' (HT.below hb).pow).mono ?_
  rintro e w'' ⟨rfl, k, os, rfl⟩
  exact ⟨rfl, (Lib.below_grow _ w' (Nat.le_refl _) k os)⟩
theorem cell_stays0 {W W' : World} {p : Addr} {v : Value} (h : W.cell? p = some v) (hb : Below W.heap.size W W') : W'.cell? p = some v := cell_stays h hb
theorem hex_app (l : List UInt8) : (⟨#[120]⟩ : ByteArray) ++ ⟨l.toArray⟩ = ⟨(120 :: l).toArray⟩ := by
  apply ByteArray.ext
  rw [ByteArray.data_append]
  simp
theorem R_stay {W W' : World} {b : Nat} {v : Value} {xs : List ByteArray} (h : Kd.R Kd.string 9 W b (fun _ => True) v xs) (hb : Below W.heap.size W W') : Kd.R Kd.string 9 W' b (fun _ => True) v xs :=
  Kd.R_mono (Kd.R_move (Kd.R_bound h) (fun k hk => hb.block k hk.2.2.1)) (fun _ hk => hk.1)
theorem itoa_okw (n : Nat) (hn : n < 256) {w w' : World} (HT : TabT w) (hb : Below w.heap.size w w') :
    Calls Tryz.prog 46 #[.int .i64 (IntKind.i64.wrap (n : Int))] w' fun e w'' => e = .returned (.string (itoaV n)) ∧ Below w'.heap.size w' w'' := by
  rw [show IntKind.i64.wrap (n : Int) = (n : Int) by rw [IntKind.wrap_i64]; omega]
  exact itoa_ok n hn HT hb
theorem post_app {W : World} {b : Nat} {v : Value} {l : List ByteArray} {x : ByteArray} (h : Kd.R Kd.string 9 W b (fun _ => True) v (l ++ [x])) :
    ∃ (g cp n : Nat), v = .slice (some ⟨g, 0, none⟩) n cp ∧ Aside0 ((l ++ [x]).length = n) ∧ ((n : Int) == 0) = false ∧ Aside0 (n ≤ cp ∧ g < W.heap.size ∧ ∀ (j : Nat) y, (l ++ [x])[j]? = some y → W.cell? ⟨g, 0 + j, none⟩ = some (.string y)) := by
  have hl : 0 < (l ++ [x]).length := by rw [List.length_append, List.length_singleton]; omega
  obtain ⟨g, cp, rfl, -, hg, -⟩ := Kd.R_form h hl
  obtain ⟨-, hcp, hC⟩ := Kd.R_reads' h
  have hz : (((l ++ [x]).length : Int) == 0) = false := beq_eq_false_iff_ne.mpr (by omega)
  exact ⟨g, cp, _, rfl, ⟨rfl⟩, hz, ⟨⟨hcp, hg, cells_of hC rfl⟩⟩⟩
theorem itoaV_len (n : Nat) (hn : n < 256) : (itoaV n).data.toList.length ≤ 30 := by
  have := Lib.itoa_length_le (n : Int) (by omega) (by omega)
  show (Lib.itoa (n : Int)).length ≤ 30
  omega
theorem keepB0 {b0 : Nat} {w W W' : World} (h : Below b0 w W) (hb : Below W.heap.size W W') (h0 : b0 ≤ W.heap.size) : Below b0 w W' := h.trans (hb.mono h0)
theorem keepW {w W W' : World} (h : Below w.heap.size w W) (hb : Below W.heap.size W W') : Below w.heap.size w W' := h.trans (hb.mono h.size)
set_option maxHeartbeats 2000000 in
set_option maxRecDepth 100000 in
theorem words_ok (a b c : ByteArray) (ha : a.data.toList.length ≤ 1000) (hb : b.data.toList.length ≤ 30) (hc : c.data.toList.length ≤ 30) (w' : World) :
    Calls Tryz.prog 62 #[.slice (some ⟨w'.heap.size, 0, none⟩) 3 3] (w'.alloc (.cells #[.string a, .string b, .string c] 9)) fun e w'' => e = .returned (.string (wordsV a b c)) ∧ Below w'.heap.size w' w'' := by
  have hblk := heap_alloc_new w' (.cells #[.string a, .string b, .string c] 9)
  have hh := below_alloc (Below.refl w'.heap.size w') (.cells #[.string a, .string b, .string c] 9)
  have hlt : w'.heap.size < (w'.alloc (.cells #[.string a, .string b, .string c] 9)).heap.size := World.block_lt_of_cell? _ _ ((blk_cell hblk 0).trans rfl)
  go_enter Tryz.func62, Tryz.ntmps62
  go_wp2_with (fail)
  refine (Tryz.strings_Join w'.heap.size 0 3 [a, b, c] ⟨#[32]⟩ _ ?_ hlt (by simp) (by simp) ?_).mono ?_
  · intro j x hx
    match j, hx with
    | 0, hx => injection hx with hx; subst hx; exact (blk_cell hblk 0).trans rfl
    | 1, hx => injection hx with hx; subst hx; exact (blk_cell hblk 1).trans rfl
    | 2, hx => injection hx with hx; subst hx; exact (blk_cell hblk 2).trans rfl
    | j + 3, hx => simp at hx
  · show (Lib.join [a.data.toList, b.data.toList, c.data.toList] [32]).length ≤ _
    rw [Lib.join_length]
    simp [Lib.lens] at *
    omega
  · rintro e w1 ⟨rfl, hb1⟩
    go_wp2_with (fail)
    go_ret
    exact ⟨rfl, keepW hh hb1⟩
set_option maxHeartbeats 2000000 in
set_option maxRecDepth 100000 in
theorem text_a (fl mn tm : Nat) (hfl : fl < 4294967296) (hmn : mn < 256) (htm : tm < 256) (w : World) (HT : TabT w) :
    Calls Tryz.prog 41 #[.agg #[.int .u32 fl, .int .u8 mn, .int .u8 tm]] w fun e w' => e = .returned (.string (textV fl mn tm)) ∧ Below w.heap.size w w' := by
  have z0 := below_alloc (Below.refl w.heap.size w) (.cells #[.int .u32 fl, .int .u8 mn, .int .u8 tm] 25)
  have hN := (HT.below z0).nm
  have n0 := (hN 0 (by omega)).trans (show some (Value.string (nm 0)) = some (.string ⟨#[101, 99, 104, 111]⟩) from rfl)
  have n1 := (hN 1 (by omega)).trans (show some (Value.string (nm 1)) = some (.string ⟨#[99, 97, 110, 111, 110]⟩) from rfl)
  have n2 := (hN 2 (by omega)).trans (show some (Value.string (nm 2)) = some (.string ⟨#[115, 105, 103, 110, 97, 108, 115]⟩) from rfl)
  have n3 := (hN 3 (by omega)).trans (show some (Value.string (nm 3)) = some (.string ⟨#[101, 120, 116, 101, 110, 100]⟩) from rfl)
  have n4 := (hN 4 (by omega)).trans (show some (Value.string (nm 4)) = some (.string ⟨#[102, 108, 111, 119]⟩) from rfl)
  have n5 := (hN 5 (by omega)).trans (show some (Value.string (nm 5)) = some (.string ⟨#[99, 114, 116, 111, 110, 108]⟩) from rfl)
  have n6 := (hN 6 (by omega)).trans (show some (Value.string (nm 6)) = some (.string ⟨#[112, 111, 115, 116]⟩) from rfl)
  have hblk := heap_alloc_new w (.cells #[.int .u32 fl, .int .u8 mn, .int .u8 tm] 25)
  go_enter Tryz.func41, Tryz.ntmps41
  go_wp2_with (fail)
  have c0 := (blk_cell hblk 0).trans rfl
  have HB0 := Aside0.mk (Below.refl (w.alloc (.cells #[.int .u32 fl, .int .u8 mn, .int .u8 tm] 25)).heap.size (w.alloc (.cells #[.int .u32 fl, .int .u8 mn, .int .u8 tm] 25)))
  have HR0 : Aside0 (Kd.R Kd.string 9 (w.alloc (.cells #[.int .u32 fl, .int .u8 mn, .int .u8 tm] 25)) (w.alloc (.cells #[.int .u32 fl, .int .u8 mn, .int .u8 tm] 25)).heap.size (fun _ => True) (.slice none 0 0) (flagL fl 0)) := ⟨Kd.R_nil _ _ _ _ _⟩
  clear hN n0 n1 n2 n3 n4 n5 n6
  generalize hW0 : (w.alloc (.cells #[.int .u32 fl, .int .u8 mn, .int .u8 tm] 25)) = W0 at *
  go_loopg [3, 8] 7 (fun kq v3 v8 w' => ∃ j : Nat, v8 = .int .i64 j ∧ Aside0 (j ≤ 7 ∧ 7 - j ≤ kq) ∧ Aside0 (Kd.R Kd.string 9 w' W0.heap.size (fun _ => True) v3 (flagL fl j)) ∧ Aside0 ((flagL fl j).length ≤ j) ∧ Aside0 (Below W0.heap.size W0 w'))
  case atStart => exact ⟨0, rfl, ⟨by omega⟩, HR0, ⟨by simp [flagL]⟩, HB0⟩
  case round =>
    clear HR0 HB0
    obtain ⟨j, rfl, hk, HR, HL, HB⟩ := hrel
    have k0 := cell_stays c0 HB.out
    have hk' := hk.out
    obtain rfl | rfl | rfl | rfl | rfl | rfl | rfl | rfl : j = 0 ∨ j = 1 ∨ j = 2 ∨ j = 3 ∨ j = 4 ∨ j = 5 ∨ j = 6 ∨ j = 7 := by omega
    · obtain ⟨k, rfl⟩ : ∃ k, gk = k + 1 := ⟨gk - 1, by omega⟩
      have hk2 := Aside0.mk (show 1 ≤ 7 ∧ 7 - 1 ≤ k by omega)
      obtain ⟨d, hd, ba⟩ : ∃ d : Nat, Aside0 (fl / 2 ^ 0 % 2 = d) ∧ bits .and .u32 (fl : Int) 1 = (d : Int) := ⟨_, ⟨rfl⟩, by
        have := and1 (fl / 2 ^ 0) (Nat.lt_of_le_of_lt (Nat.div_le_self _ _) hfl)
        rw [show ((fl / 2 ^ 0 : Nat) : Int) = (fl : Int) by omega] at this
        exact this⟩
      have hL := HL.out
      have hxx := tix_0
      clear hk hk'
      by_cases h1 : d = 1
      · have hfl2 : flagL fl 1 = flagL fl 0 ++ [⟨#[101, 99, 104, 111]⟩] := if_pos (hd.out.trans h1)
        subst h1
        go_wp2_with (first | (at_builtin; refine Kd.R_append Kd.string (w0 := W0) W0.heap.size rfl (.tmp 18) (.tmp 20) 67 9 (.string ⟨#[]⟩) 16 rfl Tryz.underlying67 info9 rfl (by decide) (by omega) u3 (flagL fl 0) (⟨#[101, 99, 104, 111]⟩ : ByteArray) [.string (⟨#[101, 99, 104, 111]⟩ : ByteArray)] (fun _ => True) (fun _ => False) rfl rfl ?aP (fun _ hk => hk.elim) ?aF ?aO ?aB ?aS ?aL ?_; (case aP => exact rfl); (case aB => exact HB.out); (case aF => exact (fun _ _ => trivial)); (case aO => exact HR.out); (case aS => exact below_size HB.out); (case aL => omega); intro v2 w2 ho hb hg hat))
        go_roundg k
        case measure => omega
        case rel => exact ⟨1, rfl, hk2, ⟨by rw [hfl2]; exact ho⟩, ⟨by rw [hfl2, List.length_append, List.length_singleton]; have := HL.out; omega⟩, ⟨hb⟩⟩
      · have hfl2 : flagL fl 1 = flagL fl 0 := if_neg (by rw [hd.out]; exact h1)
        have h1' : ((d : Int) == 1) = false := by simp; omega
        clear h1
        go_wp2_with (fail)
        go_roundg k
        case measure => omega
        case rel => exact ⟨1, rfl, hk2, ⟨by rw [hfl2]; exact HR.out⟩, ⟨by rw [hfl2]; omega⟩, HB⟩
    · obtain ⟨k, rfl⟩ : ∃ k, gk = k + 1 := ⟨gk - 1, by omega⟩
      have hk2 := Aside0.mk (show 2 ≤ 7 ∧ 7 - 2 ≤ k by omega)
      obtain ⟨d, hd, ba⟩ : ∃ d : Nat, Aside0 (fl / 2 ^ 1 % 2 = d) ∧ bits .and .u32 ((fl : Int) / 2) 1 = (d : Int) := ⟨_, ⟨rfl⟩, by
        have := and1 (fl / 2 ^ 1) (Nat.lt_of_le_of_lt (Nat.div_le_self _ _) hfl)
        rw [show ((fl / 2 ^ 1 : Nat) : Int) = ((fl : Int) / 2) by omega] at this
        exact this⟩
      have hL := HL.out
      have hxx := tix_1
      clear hk hk'
      by_cases h1 : d = 1
      · have hfl2 : flagL fl 2 = flagL fl 1 ++ [⟨#[99, 97, 110, 111, 110]⟩] := if_pos (hd.out.trans h1)
        subst h1
        go_wp2_with (first | (at_builtin; refine Kd.R_append Kd.string (w0 := W0) W0.heap.size rfl (.tmp 18) (.tmp 20) 67 9 (.string ⟨#[]⟩) 16 rfl Tryz.underlying67 info9 rfl (by decide) (by omega) u3 (flagL fl 1) (⟨#[99, 97, 110, 111, 110]⟩ : ByteArray) [.string (⟨#[99, 97, 110, 111, 110]⟩ : ByteArray)] (fun _ => True) (fun _ => False) rfl rfl ?aP (fun _ hk => hk.elim) ?aF ?aO ?aB ?aS ?aL ?_; (case aP => exact rfl); (case aB => exact HB.out); (case aF => exact (fun _ _ => trivial)); (case aO => exact HR.out); (case aS => exact below_size HB.out); (case aL => omega); intro v2 w2 ho hb hg hat))
        go_roundg k
        case measure => omega
        case rel => exact ⟨2, rfl, hk2, ⟨by rw [hfl2]; exact ho⟩, ⟨by rw [hfl2, List.length_append, List.length_singleton]; have := HL.out; omega⟩, ⟨hb⟩⟩
      · have hfl2 : flagL fl 2 = flagL fl 1 := if_neg (by rw [hd.out]; exact h1)
        have h1' : ((d : Int) == 1) = false := by simp; omega
        clear h1
        go_wp2_with (fail)
        go_roundg k
        case measure => omega
        case rel => exact ⟨2, rfl, hk2, ⟨by rw [hfl2]; exact HR.out⟩, ⟨by rw [hfl2]; omega⟩, HB⟩
    · obtain ⟨k, rfl⟩ : ∃ k, gk = k + 1 := ⟨gk - 1, by omega⟩
      have hk2 := Aside0.mk (show 3 ≤ 7 ∧ 7 - 3 ≤ k by omega)
      obtain ⟨d, hd, ba⟩ : ∃ d : Nat, Aside0 (fl / 2 ^ 2 % 2 = d) ∧ bits .and .u32 ((fl : Int) / 4) 1 = (d : Int) := ⟨_, ⟨rfl⟩, by
        have := and1 (fl / 2 ^ 2) (Nat.lt_of_le_of_lt (Nat.div_le_self _ _) hfl)
        rw [show ((fl / 2 ^ 2 : Nat) : Int) = ((fl : Int) / 4) by omega] at this
        exact this⟩
      have hL := HL.out
      have hxx := tix_2
      clear hk hk'
      by_cases h1 : d = 1
      · have hfl2 : flagL fl 3 = flagL fl 2 ++ [⟨#[115, 105, 103, 110, 97, 108, 115]⟩] := if_pos (hd.out.trans h1)
        subst h1
        go_wp2_with (first | (at_builtin; refine Kd.R_append Kd.string (w0 := W0) W0.heap.size rfl (.tmp 18) (.tmp 20) 67 9 (.string ⟨#[]⟩) 16 rfl Tryz.underlying67 info9 rfl (by decide) (by omega) u3 (flagL fl 2) (⟨#[115, 105, 103, 110, 97, 108, 115]⟩ : ByteArray) [.string (⟨#[115, 105, 103, 110, 97, 108, 115]⟩ : ByteArray)] (fun _ => True) (fun _ => False) rfl rfl ?aP (fun _ hk => hk.elim) ?aF ?aO ?aB ?aS ?aL ?_; (case aP => exact rfl); (case aB => exact HB.out); (case aF => exact (fun _ _ => trivial)); (case aO => exact HR.out); (case aS => exact below_size HB.out); (case aL => omega); intro v2 w2 ho hb hg hat))
        go_roundg k
        case measure => omega
        case rel => exact ⟨3, rfl, hk2, ⟨by rw [hfl2]; exact ho⟩, ⟨by rw [hfl2, List.length_append, List.length_singleton]; have := HL.out; omega⟩, ⟨hb⟩⟩
      · have hfl2 : flagL fl 3 = flagL fl 2 := if_neg (by rw [hd.out]; exact h1)
        have h1' : ((d : Int) == 1) = false := by simp; omega
        clear h1
        go_wp2_with (fail)
        go_roundg k
        case measure => omega
        case rel => exact ⟨3, rfl, hk2, ⟨by rw [hfl2]; exact HR.out⟩, ⟨by rw [hfl2]; omega⟩, HB⟩
    · obtain ⟨k, rfl⟩ : ∃ k, gk = k + 1 := ⟨gk - 1, by omega⟩
      have hk2 := Aside0.mk (show 4 ≤ 7 ∧ 7 - 4 ≤ k by omega)
      obtain ⟨d, hd, ba⟩ : ∃ d : Nat, Aside0 (fl / 2 ^ 3 % 2 = d) ∧ bits .and .u32 ((fl : Int) / 8) 1 = (d : Int) := ⟨_, ⟨rfl⟩, by
        have := and1 (fl / 2 ^ 3) (Nat.lt_of_le_of_lt (Nat.div_le_self _ _) hfl)
        rw [show ((fl / 2 ^ 3 : Nat) : Int) = ((fl : Int) / 8) by omega] at this
        exact this⟩
      have hL := HL.out
      have hxx := tix_3
      clear hk hk'
      by_cases h1 : d = 1
      · have hfl2 : flagL fl 4 = flagL fl 3 ++ [⟨#[101, 120, 116, 101, 110, 100]⟩] := if_pos (hd.out.trans h1)
        subst h1
        go_wp2_with (first | (at_builtin; refine Kd.R_append Kd.string (w0 := W0) W0.heap.size rfl (.tmp 18) (.tmp 20) 67 9 (.string ⟨#[]⟩) 16 rfl Tryz.underlying67 info9 rfl (by decide) (by omega) u3 (flagL fl 3) (⟨#[101, 120, 116, 101, 110, 100]⟩ : ByteArray) [.string (⟨#[101, 120, 116, 101, 110, 100]⟩ : ByteArray)] (fun _ => True) (fun _ => False) rfl rfl ?aP (fun _ hk => hk.elim) ?aF ?aO ?aB ?aS ?aL ?_; (case aP => exact rfl); (case aB => exact HB.out); (case aF => exact (fun _ _ => trivial)); (case aO => exact HR.out); (case aS => exact below_size HB.out); (case aL => omega); intro v2 w2 ho hb hg hat))
        go_roundg k
        case measure => omega
        case rel => exact ⟨4, rfl, hk2, ⟨by rw [hfl2]; exact ho⟩, ⟨by rw [hfl2, List.length_append, List.length_singleton]; have := HL.out; omega⟩, ⟨hb⟩⟩
      · have hfl2 : flagL fl 4 = flagL fl 3 := if_neg (by rw [hd.out]; exact h1)
        have h1' : ((d : Int) == 1) = false := by simp; omega
        clear h1
        go_wp2_with (fail)
        go_roundg k
        case measure => omega
        case rel => exact ⟨4, rfl, hk2, ⟨by rw [hfl2]; exact HR.out⟩, ⟨by rw [hfl2]; omega⟩, HB⟩
    · obtain ⟨k, rfl⟩ : ∃ k, gk = k + 1 := ⟨gk - 1, by omega⟩
      have hk2 := Aside0.mk (show 5 ≤ 7 ∧ 7 - 5 ≤ k by omega)
      obtain ⟨d, hd, ba⟩ : ∃ d : Nat, Aside0 (fl / 2 ^ 4 % 2 = d) ∧ bits .and .u32 ((fl : Int) / 16) 1 = (d : Int) := ⟨_, ⟨rfl⟩, by
        have := and1 (fl / 2 ^ 4) (Nat.lt_of_le_of_lt (Nat.div_le_self _ _) hfl)
        rw [show ((fl / 2 ^ 4 : Nat) : Int) = ((fl : Int) / 16) by omega] at this
        exact this⟩
      have hL := HL.out
      have hxx := tix_4
      clear hk hk'
      by_cases h1 : d = 1
      · have hfl2 : flagL fl 5 = flagL fl 4 ++ [⟨#[102, 108, 111, 119]⟩] := if_pos (hd.out.trans h1)
        subst h1
        go_wp2_with (first | (at_builtin; refine Kd.R_append Kd.string (w0 := W0) W0.heap.size rfl (.tmp 18) (.tmp 20) 67 9 (.string ⟨#[]⟩) 16 rfl Tryz.underlying67 info9 rfl (by decide) (by omega) u3 (flagL fl 4) (⟨#[102, 108, 111, 119]⟩ : ByteArray) [.string (⟨#[102, 108, 111, 119]⟩ : ByteArray)] (fun _ => True) (fun _ => False) rfl rfl ?aP (fun _ hk => hk.elim) ?aF ?aO ?aB ?aS ?aL ?_; (case aP => exact rfl); (case aB => exact HB.out); (case aF => exact (fun _ _ => trivial)); (case aO => exact HR.out); (case aS => exact below_size HB.out); (case aL => omega); intro v2 w2 ho hb hg hat))
        go_roundg k
        case measure => omega
        case rel => exact ⟨5, rfl, hk2, ⟨by rw [hfl2]; exact ho⟩, ⟨by rw [hfl2, List.length_append, List.length_singleton]; have := HL.out; omega⟩, ⟨hb⟩⟩
      · have hfl2 : flagL fl 5 = flagL fl 4 := if_neg (by rw [hd.out]; exact h1)
        have h1' : ((d : Int) == 1) = false := by simp; omega
        clear h1
        go_wp2_with (fail)
        go_roundg k
        case measure => omega
        case rel => exact ⟨5, rfl, hk2, ⟨by rw [hfl2]; exact HR.out⟩, ⟨by rw [hfl2]; omega⟩, HB⟩
    · obtain ⟨k, rfl⟩ : ∃ k, gk = k + 1 := ⟨gk - 1, by omega⟩
      have hk2 := Aside0.mk (show 6 ≤ 7 ∧ 7 - 6 ≤ k by omega)
      obtain ⟨d, hd, ba⟩ : ∃ d : Nat, Aside0 (fl / 2 ^ 5 % 2 = d) ∧ bits .and .u32 ((fl : Int) / 32) 1 = (d : Int) := ⟨_, ⟨rfl⟩, by
        have := and1 (fl / 2 ^ 5) (Nat.lt_of_le_of_lt (Nat.div_le_self _ _) hfl)
        rw [show ((fl / 2 ^ 5 : Nat) : Int) = ((fl : Int) / 32) by omega] at this
        exact this⟩
      have hL := HL.out
      have hxx := tix_5
      clear hk hk'
      by_cases h1 : d = 1
      · have hfl2 : flagL fl 6 = flagL fl 5 ++ [⟨#[99, 114, 116, 111, 110, 108]⟩] := if_pos (hd.out.trans h1)
        subst h1
        go_wp2_with (first | (at_builtin; refine Kd.R_append Kd.string (w0 := W0) W0.heap.size rfl (.tmp 18) (.tmp 20) 67 9 (.string ⟨#[]⟩) 16 rfl Tryz.underlying67 info9 rfl (by decide) (by omega) u3 (flagL fl 5) (⟨#[99, 114, 116, 111, 110, 108]⟩ : ByteArray) [.string (⟨#[99, 114, 116, 111, 110, 108]⟩ : ByteArray)] (fun _ => True) (fun _ => False) rfl rfl ?aP (fun _ hk => hk.elim) ?aF ?aO ?aB ?aS ?aL ?_; (case aP => exact rfl); (case aB => exact HB.out); (case aF => exact (fun _ _ => trivial)); (case aO => exact HR.out); (case aS => exact below_size HB.out); (case aL => omega); intro v2 w2 ho hb hg hat))
        go_roundg k
        case measure => omega
        case rel => exact ⟨6, rfl, hk2, ⟨by rw [hfl2]; exact ho⟩, ⟨by rw [hfl2, List.length_append, List.length_singleton]; have := HL.out; omega⟩, ⟨hb⟩⟩
      · have hfl2 : flagL fl 6 = flagL fl 5 := if_neg (by rw [hd.out]; exact h1)
        have h1' : ((d : Int) == 1) = false := by simp; omega
        clear h1
        go_wp2_with (fail)
        go_roundg k
        case measure => omega
        case rel => exact ⟨6, rfl, hk2, ⟨by rw [hfl2]; exact HR.out⟩, ⟨by rw [hfl2]; omega⟩, HB⟩
    · obtain ⟨k, rfl⟩ : ∃ k, gk = k + 1 := ⟨gk - 1, by omega⟩
      have hk2 := Aside0.mk (show 7 ≤ 7 ∧ 7 - 7 ≤ k by omega)
      obtain ⟨d, hd, ba⟩ : ∃ d : Nat, Aside0 (fl / 2 ^ 6 % 2 = d) ∧ bits .and .u32 ((fl : Int) / 64) 1 = (d : Int) := ⟨_, ⟨rfl⟩, by
        have := and1 (fl / 2 ^ 6) (Nat.lt_of_le_of_lt (Nat.div_le_self _ _) hfl)
        rw [show ((fl / 2 ^ 6 : Nat) : Int) = ((fl : Int) / 64) by omega] at this
        exact this⟩
      have hL := HL.out
      have hxx := tix_6
      clear hk hk'
      by_cases h1 : d = 1
      · have hfl2 : flagL fl 7 = flagL fl 6 ++ [⟨#[112, 111, 115, 116]⟩] := if_pos (hd.out.trans h1)
        subst h1
        go_wp2_with (first | (at_builtin; refine Kd.R_append Kd.string (w0 := W0) W0.heap.size rfl (.tmp 18) (.tmp 20) 67 9 (.string ⟨#[]⟩) 16 rfl Tryz.underlying67 info9 rfl (by decide) (by omega) u3 (flagL fl 6) (⟨#[112, 111, 115, 116]⟩ : ByteArray) [.string (⟨#[112, 111, 115, 116]⟩ : ByteArray)] (fun _ => True) (fun _ => False) rfl rfl ?aP (fun _ hk => hk.elim) ?aF ?aO ?aB ?aS ?aL ?_; (case aP => exact rfl); (case aB => exact HB.out); (case aF => exact (fun _ _ => trivial)); (case aO => exact HR.out); (case aS => exact below_size HB.out); (case aL => omega); intro v2 w2 ho hb hg hat))
        go_roundg k
        case measure => omega
        case rel => exact ⟨7, rfl, hk2, ⟨by rw [hfl2]; exact ho⟩, ⟨by rw [hfl2, List.length_append, List.length_singleton]; have := HL.out; omega⟩, ⟨hb⟩⟩
      · have hfl2 : flagL fl 7 = flagL fl 6 := if_neg (by rw [hd.out]; exact h1)
        have h1' : ((d : Int) == 1) = false := by simp; omega
        clear h1
        go_wp2_with (fail)
        go_roundg k
        case measure => omega
        case rel => exact ⟨7, rfl, hk2, ⟨by rw [hfl2]; exact HR.out⟩, ⟨by rw [hfl2]; omega⟩, HB⟩
    · clear hk hk' c0
      have c1 := (blk_cell hblk 1).trans rfl
      have c2 := (blk_cell hblk 2).trans rfl
      have k1 : wr.cell? ⟨w.heap.size, 1, none⟩ = some (.int .u8 mn) := cell_stays c1 HB.out
      have k2 : wr.cell? ⟨w.heap.size, 2, none⟩ = some (.int .u8 tm) := cell_stays c2 HB.out
      have hwW : Below w.heap.size w wr := keepB0 z0 HB.out z0.size
      clear hblk
      obtain ⟨r, hr, hwr, ba⟩ : ∃ r : Nat, Aside0 (fl - fl % 128 = r ∧ r < 4294967296) ∧ IntKind.u64.wrap (r : Int) = (r : Int) ∧ bits .andNot .u32 (fl : Int) 127 = (r : Int) := ⟨_, ⟨⟨rfl, by omega⟩⟩, by rw [IntKind.wrap_u64]; omega, andnot127 fl hfl⟩
      have hS := Aside0.mk (all_small fl hfl)
      by_cases h1 : r = 0
      · subst h1
        have hall : Aside0 (allL fl = flagL fl 7) := ⟨by rw [allL, hr.out.1, restL, if_pos rfl, List.append_nil]⟩
        by_cases h2 : (flagL fl 7).length = 0
        · have hres' : Aside0 (partL fl = [(⟨#[45]⟩ : ByteArray)]) := ⟨by rw [partL, hall.out, if_pos h2]⟩
          obtain ⟨A, cp, rfl, -, -⟩ := Kd.R_reads HR.out
          clear HR
          rw [h2] at *
          clear h2
          have hblk2 := heap_alloc_new wr (.cells #[.string (⟨#[45]⟩ : ByteArray)] 9)
          have hAl := below_alloc (Below.refl wr.heap.size wr) (.cells #[.string (⟨#[45]⟩ : ByteArray)] 9)
          have k1 := cell_stays k1 hAl
          have k2 := cell_stays k2 hAl
          have hwW := keepW hwW hAl
          go_wp2_with (fail)
          generalize wr.alloc (.cells #[.string (⟨#[45]⟩ : ByteArray)] 9) = Wx at *
          have hC : ∀ (j : Nat) x, [(⟨#[45]⟩ : ByteArray)][j]? = some x → Wx.cell? ⟨wr.heap.size, 0 + j, none⟩ = some (.string x) := by
            intro j x hx
            match j, hx with
            | 0, hx => injection hx with hx; subst hx; exact (blk_cell hblk2 0).trans rfl
            | j + 1, hx => simp at hx
          have hg : wr.heap.size < Wx.heap.size := World.block_lt_of_cell? _ _ (hC 0 _ rfl)
          have hn : [(⟨#[45]⟩ : ByteArray)].length = 1 := rfl
          have hcp : 1 ≤ 1 := Nat.le_refl _
          have hs : Small [(⟨#[45]⟩ : ByteArray)] := ⟨by simp, by intro x hx; rw [List.mem_singleton.mp hx]; decide⟩
          have hres := hres'.out
          clear hblk2
          have hd0 := below_drew1 (Below.refl Wx.heap.size Wx)
          have kd1 : Wx.drew.cell? ⟨w.heap.size, 1, none⟩ = some (.int .u8 mn) := k1
          have kd2 : Wx.drew.cell? ⟨w.heap.size, 2, none⟩ = some (.int .u8 tm) := k2
          have hJ := Aside0.mk (join_ok [(⟨#[45]⟩ : ByteArray)] wr.heap.size 1 1 Wx hn hcp hC hg hs)
          have hI1 := Aside0.mk (fun w' (hb : Below Wx.heap.size Wx w') => itoa_ok mn hmn HT (keepW hwW hb))
          have hJ1 := Aside0.mk (fun w' (hb : Below Wx.heap.size Wx w') => itoa_okw mn hmn HT (keepW hwW hb))
          have hJ2 := Aside0.mk (fun w' (hb : Below Wx.heap.size Wx w') => itoa_okw tm htm HT (keepW hwW hb))
          have hI2 := Aside0.mk (fun w' (hb : Below Wx.heap.size Wx w') => itoa_ok tm htm HT (keepW hwW hb))
          have hq1 : (joinV [(⟨#[45]⟩ : ByteArray)]).data.toList.length ≤ 1000 := small_join hs 43
          have hq := Aside0.mk (fun w' => words_ok (joinV [(⟨#[45]⟩ : ByteArray)]) (itoaV mn) (itoaV tm) hq1 (itoaV_len mn hmn) (itoaV_len tm htm) w')
          have hfin := Aside0.mk (show wordsV (joinV [(⟨#[45]⟩ : ByteArray)]) (itoaV mn) (itoaV tm) = textV fl mn tm by rw [textV, hres])
          have hwW' := Aside0.mk hwW
          clear hq1 hn hC hs hres hwW
          go_region_held3 (fun w' => w'.cell? ⟨w.heap.size, 1, none⟩ = some (.int .u8 mn) ∧ w'.cell? ⟨w.heap.size, 2, none⟩ = some (.int .u8 tm) ∧ Below Wx.heap.size Wx w') (refine ⟨?_, ?_, ?_⟩ <;> first | assumption | exact cell_stays k1 (by repeat (first | assumption | exact Below.refl _ _ | refine keepW ?_ (below_alloc (Below.refl _ _) _) | refine keepW ?_ (by assumption))) | exact cell_stays k2 (by repeat (first | assumption | exact Below.refl _ _ | refine keepW ?_ (below_alloc (Below.refl _ _) _) | refine keepW ?_ (by assumption))) | exact (by repeat (first | assumption | exact Below.refl _ _ | refine keepW ?_ (below_alloc (Below.refl _ _) _) | refine keepW ?_ (by assumption))) | fail)
            (first | (go_at_call 44; refine (hJ.out _ (by repeat (first | assumption | exact Below.refl _ _ | refine keepW ?_ (below_alloc (Below.refl _ _) _) | refine keepW ?_ (by assumption)))).mono ?_; rintro e w' ⟨rfl, hb⟩) | (go_at_call 46; refine (hJ1.out _ (by repeat (first | assumption | exact Below.refl _ _ | refine keepW ?_ (below_alloc (Below.refl _ _) _) | refine keepW ?_ (by assumption)))).mono ?_; rintro e w' ⟨rfl, hb⟩) | (go_at_call 46; refine (hJ2.out _ (by repeat (first | assumption | exact Below.refl _ _ | refine keepW ?_ (below_alloc (Below.refl _ _) _) | refine keepW ?_ (by assumption)))).mono ?_; rintro e w' ⟨rfl, hb⟩) | (go_at_call 46; refine (hI1.out _ (by repeat (first | assumption | exact Below.refl _ _ | refine keepW ?_ (below_alloc (Below.refl _ _) _) | refine keepW ?_ (by assumption)))).mono ?_; rintro e w' ⟨rfl, hb⟩) | (go_at_call 46; refine (hI2.out _ (by repeat (first | assumption | exact Below.refl _ _ | refine keepW ?_ (below_alloc (Below.refl _ _) _) | refine keepW ?_ (by assumption)))).mono ?_; rintro e w' ⟨rfl, hb⟩) | (go_at_call 62; refine (hq.out _).mono ?_; rintro e w' ⟨rfl, hb⟩))
          go_wp2_with (fail)
          go_ret
          exact ⟨congrArg (fun s => Ending.returned (Value.string s)) hfin.out, keepW hwW'.out (by repeat (first | assumption | exact Below.refl _ _ | refine keepW ?_ (below_alloc (Below.refl _ _) _) | refine keepW ?_ (by assumption)))⟩
        · have hres : partL fl = flagL fl 7 := by rw [partL, hall.out, if_neg h2]
          obtain ⟨g, cp, rfl, -, hg, -⟩ := Kd.R_form HR.out (by omega)
          obtain ⟨-, hcp, hC⟩ := Kd.R_reads' HR.out
          have hCC := cells_of hC rfl
          clear hC
          have hs : Small (flagL fl 7) := by rw [← hall.out]; exact hS.out
          clear HR HL
          generalize hn : (flagL fl 7).length = n at *
          have h2' : ((n : Int) == 0) = false := by simp; omega
          have hA := Aside0.mk (And.intro hn (And.intro hCC (And.intro hs hres)))
          clear h2 hn hCC hs hres
          go_wp2_with (fail)
          obtain ⟨hn, hC, hs, hres⟩ := hA.out
          have hd0 := below_drew1 (Below.refl wr.heap.size wr)
          have kd1 : wr.drew.cell? ⟨w.heap.size, 1, none⟩ = some (.int .u8 mn) := k1
          have kd2 : wr.drew.cell? ⟨w.heap.size, 2, none⟩ = some (.int .u8 tm) := k2
          have hJ := Aside0.mk (join_ok (flagL fl 7) g cp n wr hn hcp hC hg hs)
          have hI1 := Aside0.mk (fun w' (hb : Below wr.heap.size wr w') => itoa_ok mn hmn HT (keepW hwW hb))
          have hJ1 := Aside0.mk (fun w' (hb : Below wr.heap.size wr w') => itoa_okw mn hmn HT (keepW hwW hb))
          have hJ2 := Aside0.mk (fun w' (hb : Below wr.heap.size wr w') => itoa_okw tm htm HT (keepW hwW hb))
          have hI2 := Aside0.mk (fun w' (hb : Below wr.heap.size wr w') => itoa_ok tm htm HT (keepW hwW hb))
          have hq1 : (joinV (flagL fl 7)).data.toList.length ≤ 1000 := small_join hs 43
          have hq := Aside0.mk (fun w' => words_ok (joinV (flagL fl 7)) (itoaV mn) (itoaV tm) hq1 (itoaV_len mn hmn) (itoaV_len tm htm) w')
          have hfin := Aside0.mk (show wordsV (joinV (flagL fl 7)) (itoaV mn) (itoaV tm) = textV fl mn tm by rw [textV, hres])
          have hwW' := Aside0.mk hwW
          clear hq1 hn hC hs hres hwW
          go_region_held3 (fun w' => w'.cell? ⟨w.heap.size, 1, none⟩ = some (.int .u8 mn) ∧ w'.cell? ⟨w.heap.size, 2, none⟩ = some (.int .u8 tm) ∧ Below wr.heap.size wr w') (refine ⟨?_, ?_, ?_⟩ <;> first | assumption | exact cell_stays k1 (by repeat (first | assumption | exact Below.refl _ _ | refine keepW ?_ (below_alloc (Below.refl _ _) _) | refine keepW ?_ (by assumption))) | exact cell_stays k2 (by repeat (first | assumption | exact Below.refl _ _ | refine keepW ?_ (below_alloc (Below.refl _ _) _) | refine keepW ?_ (by assumption))) | exact (by repeat (first | assumption | exact Below.refl _ _ | refine keepW ?_ (below_alloc (Below.refl _ _) _) | refine keepW ?_ (by assumption))) | fail)
            (first | (go_at_call 44; refine (hJ.out _ (by repeat (first | assumption | exact Below.refl _ _ | refine keepW ?_ (below_alloc (Below.refl _ _) _) | refine keepW ?_ (by assumption)))).mono ?_; rintro e w' ⟨rfl, hb⟩) | (go_at_call 46; refine (hJ1.out _ (by repeat (first | assumption | exact Below.refl _ _ | refine keepW ?_ (below_alloc (Below.refl _ _) _) | refine keepW ?_ (by assumption)))).mono ?_; rintro e w' ⟨rfl, hb⟩) | (go_at_call 46; refine (hJ2.out _ (by repeat (first | assumption | exact Below.refl _ _ | refine keepW ?_ (below_alloc (Below.refl _ _) _) | refine keepW ?_ (by assumption)))).mono ?_; rintro e w' ⟨rfl, hb⟩) | (go_at_call 46; refine (hI1.out _ (by repeat (first | assumption | exact Below.refl _ _ | refine keepW ?_ (below_alloc (Below.refl _ _) _) | refine keepW ?_ (by assumption)))).mono ?_; rintro e w' ⟨rfl, hb⟩) | (go_at_call 46; refine (hI2.out _ (by repeat (first | assumption | exact Below.refl _ _ | refine keepW ?_ (below_alloc (Below.refl _ _) _) | refine keepW ?_ (by assumption)))).mono ?_; rintro e w' ⟨rfl, hb⟩) | (go_at_call 62; refine (hq.out _).mono ?_; rintro e w' ⟨rfl, hb⟩))
          go_wp2_with (fail)
          go_ret
          exact ⟨congrArg (fun s => Ending.returned (Value.string s)) hfin.out, keepW hwW'.out (by repeat (first | assumption | exact Below.refl _ _ | refine keepW ?_ (below_alloc (Below.refl _ _) _) | refine keepW ?_ (by assumption)))⟩
      · have h1' : ((r : Int) != 0) = true := by simp; omega
        have hr0 := Aside0.mk h1
        clear h1
        go_wp2_with (fail)
        refine (fmt16 r hr.out.2 wr ((HT.below hwW).tz)).mono ?_
        rintro e w1 ⟨rfl, hb1⟩
        have hXX := Aside0.mk (hex_app (digs 16 r))
        have k5 : (9223372036854775807 < 1 + (⟨(digs 16 r).toArray⟩ : ByteArray).size) = False := eq_false (by
          have h8 := digs16_len 8 r (by omega) (by have := hr.out.2; omega)
          show ¬ (_ < 1 + (digs 16 r).toArray.size)
          rw [List.size_toArray]; omega)
        generalize (⟨(digs 16 r).toArray⟩ : ByteArray) = D at *
        have HR1 := Aside0.mk (R_stay HR.out hb1)
        have HB1 := Aside0.mk (HB.out.trans (hb1.mono HB.out.size))
        have hL := HL.out
        go_wp2_with (first | (at_builtin; refine Kd.R_append Kd.string (w0 := W0) W0.heap.size rfl (.tmp 28) (.tmp 33) 67 9 (.string ⟨#[]⟩) 16 rfl Tryz.underlying67 info9 rfl (by decide) (by omega) u3 (flagL fl 7) ((⟨#[120]⟩ : ByteArray) ++ D) [.string ((⟨#[120]⟩ : ByteArray) ++ D)] (fun _ => True) (fun _ => False) rfl rfl ?aP (fun _ hk => hk.elim) ?aF ?aO ?aB ?aS ?aL ?_; (case aP => exact rfl); (case aB => exact HB1.out); (case aF => exact (fun _ _ => trivial)); (case aO => exact HR1.out); (case aS => exact below_size HB1.out); (case aL => omega); intro v2 w2 ho hb hg hat; clear k1 k2; have k1 : w2.cell? ⟨w.heap.size, 1, none⟩ = some (.int .u8 mn) := cell_stays0 c1 hb; have k2 : w2.cell? ⟨w.heap.size, 2, none⟩ = some (.int .u8 tm) := cell_stays0 c2 hb; have hp := post_app ho; generalize (⟨#[120]⟩ : ByteArray) ++ D = X at *; obtain ⟨g, cp, n, rfl, hn, h2', hA⟩ := hp; clear ho hg hat))
        obtain ⟨hcp, hg2, hC⟩ := hA.out
        have hn := hn.out
        have hwW : Below w.heap.size w w2 := keepB0 z0 hb z0.size
        have hs : Small (flagL fl 7 ++ [X]) := by have := hS.out; rw [allL, hr.out.1, restL, if_neg hr0.out, ← hXX.out] at this; exact this
        have hres : partL fl = flagL fl 7 ++ [X] := by rw [partL, allL, hr.out.1, restL, if_neg hr0.out, if_neg (by simp), ← hXX.out]
        have hg := hg2
        clear hXX
        have hd0 := below_drew1 (Below.refl w2.heap.size w2)
        have kd1 : w2.drew.cell? ⟨w.heap.size, 1, none⟩ = some (.int .u8 mn) := k1
        have kd2 : w2.drew.cell? ⟨w.heap.size, 2, none⟩ = some (.int .u8 tm) := k2
        have hJ := Aside0.mk (join_ok (flagL fl 7 ++ [X]) g cp n w2 hn hcp hC hg hs)
        have hI1 := Aside0.mk (fun w' (hb : Below w2.heap.size w2 w') => itoa_ok mn hmn HT (keepW hwW hb))
        have hJ1 := Aside0.mk (fun w' (hb : Below w2.heap.size w2 w') => itoa_okw mn hmn HT (keepW hwW hb))
        have hJ2 := Aside0.mk (fun w' (hb : Below w2.heap.size w2 w') => itoa_okw tm htm HT (keepW hwW hb))
        have hI2 := Aside0.mk (fun w' (hb : Below w2.heap.size w2 w') => itoa_ok tm htm HT (keepW hwW hb))
        have hq1 : (joinV (flagL fl 7 ++ [X])).data.toList.length ≤ 1000 := small_join hs 43
        have hq := Aside0.mk (fun w' => words_ok (joinV (flagL fl 7 ++ [X])) (itoaV mn) (itoaV tm) hq1 (itoaV_len mn hmn) (itoaV_len tm htm) w')
        have hfin := Aside0.mk (show wordsV (joinV (flagL fl 7 ++ [X])) (itoaV mn) (itoaV tm) = textV fl mn tm by rw [textV, hres])
        have hwW' := Aside0.mk hwW
        clear hq1 hn hC hs hres hwW
        go_region_held3 (fun w' => w'.cell? ⟨w.heap.size, 1, none⟩ = some (.int .u8 mn) ∧ w'.cell? ⟨w.heap.size, 2, none⟩ = some (.int .u8 tm) ∧ Below w2.heap.size w2 w') (refine ⟨?_, ?_, ?_⟩ <;> first | assumption | exact cell_stays k1 (by repeat (first | assumption | exact Below.refl _ _ | refine keepW ?_ (below_alloc (Below.refl _ _) _) | refine keepW ?_ (by assumption))) | exact cell_stays k2 (by repeat (first | assumption | exact Below.refl _ _ | refine keepW ?_ (below_alloc (Below.refl _ _) _) | refine keepW ?_ (by assumption))) | exact (by repeat (first | assumption | exact Below.refl _ _ | refine keepW ?_ (below_alloc (Below.refl _ _) _) | refine keepW ?_ (by assumption))) | fail)
          (first | (go_at_call 44; refine (hJ.out _ (by repeat (first | assumption | exact Below.refl _ _ | refine keepW ?_ (below_alloc (Below.refl _ _) _) | refine keepW ?_ (by assumption)))).mono ?_; rintro e w' ⟨rfl, hb⟩) | (go_at_call 46; refine (hJ1.out _ (by repeat (first | assumption | exact Below.refl _ _ | refine keepW ?_ (below_alloc (Below.refl _ _) _) | refine keepW ?_ (by assumption)))).mono ?_; rintro e w' ⟨rfl, hb⟩) | (go_at_call 46; refine (hJ2.out _ (by repeat (first | assumption | exact Below.refl _ _ | refine keepW ?_ (below_alloc (Below.refl _ _) _) | refine keepW ?_ (by assumption)))).mono ?_; rintro e w' ⟨rfl, hb⟩) | (go_at_call 46; refine (hI1.out _ (by repeat (first | assumption | exact Below.refl _ _ | refine keepW ?_ (below_alloc (Below.refl _ _) _) | refine keepW ?_ (by assumption)))).mono ?_; rintro e w' ⟨rfl, hb⟩) | (go_at_call 46; refine (hI2.out _ (by repeat (first | assumption | exact Below.refl _ _ | refine keepW ?_ (below_alloc (Below.refl _ _) _) | refine keepW ?_ (by assumption)))).mono ?_; rintro e w' ⟨rfl, hb⟩) | (go_at_call 62; refine (hq.out _).mono ?_; rintro e w' ⟨rfl, hb⟩))
        go_wp2_with (fail)
        go_ret
        exact ⟨congrArg (fun s => Ending.returned (Value.string s)) hfin.out, keepW hwW'.out (by repeat (first | assumption | exact Below.refl _ _ | refine keepW ?_ (below_alloc (Below.refl _ _) _) | refine keepW ?_ (by assumption)))⟩


end Go.Proofs.YtbiogabekhegaaaGreatDoor.Hand

namespace Go.Proofs.YtbiogabekhegaaaGreatDoor.Hand
open Go.RowKit Go.Proofs.YtbiogabekhegaaaGreatDoorW.PrintWords Go.Proofs.YtbiogabekhegaaaGreatDoorW.PrintLast
set_option linter.unusedVariables false
set_option linter.unusedSimpArgs false

/-- An error's variable holds nothing but an interface value. -/
def ErrIn (w : World) (g : Nat) : Prop := ∃ ev, w.cell? ⟨g, 0, none⟩ = some ev ∧ (ev = .nilIface ∨ ∃ te pe, ev = .iface te pe)
theorem ErrIn.below {w W : World} {g : Nat} (h : ErrIn w g) (hb : Below w.heap.size w W) : ErrIn W g := by
  obtain ⟨ev, h1, h2⟩ := h
  exact ⟨ev, cell_stays h1 hb, h2⟩
/-- The world holds what attrs asks of it. -/
structure TabA (w : World) : Prop where
  tt : TabT w
  mx : ∃ m, w.cell? ⟨1, 0, none⟩ = some (.int .i64 m)
  es : ErrIn w 3
  er : ErrIn w 4
theorem TabA.below {w W : World} (h : TabA w) (hb : Below w.heap.size w W) : TabA W :=
  ⟨h.tt.below hb, by obtain ⟨m, hm⟩ := h.mx; exact ⟨m, cell_stays hm hb⟩, h.es.below hb, h.er.below hb⟩

theorem p16_err : ∀ (l : List UInt8) (acc : Nat), acc ≤ 4294967295 → (p16 acc l).1 ≤ 4294967295 ∧ ((p16 acc l).2 = 0 ∨ (p16 acc l).2 = 1 ∨ (p16 acc l).2 = 2)
  | [], acc, h => ⟨h, .inl rfl⟩
  | c :: r, acc, h => by
    unfold p16
    split
    · split
      · exact ⟨Nat.le_refl _, .inr (.inl rfl)⟩
      · exact p16_err r _ (by omega)
    · exact ⟨Nat.zero_le _, .inr (.inr rfl)⟩
def r16 (t : ByteArray) : Nat × Int := if t.size = 0 then (0, 2) else p16 0 t.data.toList
theorem r16_err (t : ByteArray) : (r16 t).1 ≤ 4294967295 ∧ ((r16 t).2 = 0 ∨ (r16 t).2 = 1 ∨ (r16 t).2 = 2) := by
  unfold r16
  split
  · exact ⟨Nat.zero_le _, .inr (.inr rfl)⟩
  · exact p16_err _ _ (Nat.zero_le _)
theorem in16 (t : ByteArray) (ht : t.size ≤ 281474976710656) (w : World) :
    Calls Tryz.prog 79 #[.string t, .int .i64 16, .int .i64 32] w fun e w' => e = .returned (.tuple #[.int .u64 (r16 t).1, errI (r16 t).2]) ∧ Below w.heap.size w w' := by
  unfold r16
  split
  · rename_i h
    have : t = ⟨#[]⟩ := ba_ext (List.eq_nil_of_length_eq_zero (by have := Lib.size_eq t; omega))
    subst this
    exact (parse16_empty w).mono (by rintro e w' ⟨rfl, rfl⟩; exact ⟨rfl, Below.refl _ _⟩)
  · rename_i h
    exact (parse16_in t h (by omega) w).mono (by rintro e w' ⟨rfl, rfl⟩; exact ⟨rfl, Lib.bytesWorld_below _ _ _⟩)

set_option maxHeartbeats 4000000 in
set_option maxRecDepth 100000 in
theorem pu16_ok (t : ByteArray) (ht : t.size ≤ 281474976710656) (h : (r16 t).2 = 0) (w : World) :
    Calls Tryz.prog 64 #[.string t, .int .i64 16, .int .i64 32] w fun e w' => e = .returned (.tuple #[.int .u64 (r16 t).1, .nilIface]) ∧ Below w.heap.size w w' := by
  have hI := in16 t ht w
  rw [h] at hI
  have hI : Calls Tryz.prog 79 #[.string t, .int .i64 16, .int .i64 32] w fun e w' => e = .returned (.tuple #[.int .u64 (r16 t).1, .nilIface]) ∧ Below w.heap.size w w' := hI
  clear h
  go_enter Tryz.func64, Tryz.ntmps64
  go_wp2_with (go_at_call 79; refine hI.mono ?_; rintro e W1 ⟨rfl, hW⟩)
  go_wp2
  go_ret2
  exact ⟨rfl, hW⟩

set_option maxHeartbeats 4000000 in
set_option maxRecDepth 100000 in
theorem pu16_bad (t : ByteArray) (ht : t.size ≤ 281474976710656) (h : (r16 t).2 ≠ 0) (w : World) (HT : TabA w) :
    Calls Tryz.prog 64 #[.string t, .int .i64 16, .int .i64 32] w fun e w' => ∃ N, e = .returned (.tuple #[.int .u64 (r16 t).1, .iface 139 (.pointer (some ⟨N, 0, none⟩))]) ∧ Below w.heap.size w w' := by
  have hI := in16 t ht w
  rcases (r16_err t).2 with h0 | h1 | h1
  · exact absurd h0 h
  · obtain ⟨ev, hv, hev⟩ := HT.er
    rw [h1] at hI
    have hI : Calls Tryz.prog 79 #[.string t, .int .i64 16, .int .i64 32] w fun e w' => e = .returned (.tuple #[.int .u64 (r16 t).1, .iface 136 (.int .i64 1)]) ∧ Below w.heap.size w w' := hI
    clear h h1
    go_enter Tryz.func64, Tryz.ntmps64
    go_wp2_with (go_at_call 79; refine hI.mono ?_)
    rintro e W1 ⟨rfl, hW⟩
    have hv1 := cell_stays hv hW
    go_wp2_with (go_at_call 80; refine (Tryz.strconv_toError_range ⟨#[80, 97, 114, 115, 101, 85, 105, 110, 116]⟩ t 16 32 ev _ ht ?_ hev).mono ?_)
    · exact hv1
    rintro e W2 ⟨N, rfl, _, _, h3⟩
    go_wp2
    go_ret2
    exact ⟨N, rfl, hW.trans (h3.mono hW.size)⟩
  · obtain ⟨ev, hv, hev⟩ := HT.es
    rw [h1] at hI
    have hI : Calls Tryz.prog 79 #[.string t, .int .i64 16, .int .i64 32] w fun e w' => e = .returned (.tuple #[.int .u64 (r16 t).1, .iface 136 (.int .i64 2)]) ∧ Below w.heap.size w w' := hI
    clear h h1
    go_enter Tryz.func64, Tryz.ntmps64
    go_wp2_with (go_at_call 79; refine hI.mono ?_)
    rintro e W1 ⟨rfl, hW⟩
    have hv1 := cell_stays hv hW
    go_wp2_with (go_at_call 80; refine (Tryz.strconv_toError_syntax ⟨#[80, 97, 114, 115, 101, 85, 105, 110, 116]⟩ t 16 32 ev _ ht ?_ hev).mono ?_)
    · exact hv1
    rintro e W2 ⟨N, rfl, _, _, h3⟩
    go_wp2
    go_ret2
    exact ⟨N, rfl, hW.trans (h3.mono hW.size)⟩

/-- What ParseUint to the base 10 at 8 bits answers, its error aside; and whether there is none. -/
def d8 (t : ByteArray) : Nat := match Lib.parseUintB 8 t.data.toList with | .ok u => u | .range => 255 | _ => 0
def d8ok (t : ByteArray) : Bool := match Lib.parseUintB 8 t.data.toList with | .ok _ => true | _ => false
theorem d8_lt (t : ByteArray) : d8 t < 256 := by
  unfold d8
  split
  · rename_i u h
    unfold Lib.parseUintB at h
    split at h
    · cases h
    · have := Lib.parseUintM_le _ _ _ _ (Nat.zero_le _) h
      omega
  · omega
  · omega
theorem pu8_ok (t : ByteArray) (ht : t.size ≤ 281474976710656) (h : d8ok t = true) (w : World) :
    Calls Tryz.prog 64 #[.string t, .int .i64 10, .int .i64 8] w fun e w' => e = .returned (.tuple #[.int .u64 (d8 t), .nilIface]) ∧ Below w.heap.size w w' := by
  unfold d8ok at h
  unfold d8
  split at h
  · rename_i u hu
    simp only [hu]
    refine (Tryz.strconv_ParseUint_10_at8_ok t (by omega) u hu w).mono ?_
    rintro e w' ⟨rfl, hw⟩
    refine ⟨rfl, ?_⟩
    rcases hw with rfl | rfl
    · exact Below.refl _ _
    · exact Lib.bytesWorld_below _ _ _
  · exact absurd h (by decide)
theorem pu8_bad (t : ByteArray) (ht : t.size ≤ 281474976710656) (h : d8ok t = false) (w : World) (HT : TabA w) :
    Calls Tryz.prog 64 #[.string t, .int .i64 10, .int .i64 8] w fun e w' => ∃ N, e = .returned (.tuple #[.int .u64 (d8 t), .iface 139 (.pointer (some ⟨N, 0, none⟩))]) ∧ Below w.heap.size w w' := by
  by_cases hs : isSyn (Lib.parseUintB 8 t.data.toList) = true
  · obtain ⟨ev, hv, hev⟩ := HT.es
    refine (Tryz.strconv_ParseUint_10_at8_syntax t ht hs ev w hv hev).mono ?_
    rintro e w' ⟨N, rfl, _, _, hb⟩
    refine ⟨N, ?_, hb⟩
    unfold d8
    revert hs
    cases Lib.parseUintB 8 t.data.toList <;> simp [isSyn]
  · unfold d8ok at h
    unfold d8
    split at h
    · exact absurd h (by decide)
    · rename_i hno
      cases hu : Lib.parseUintB 8 t.data.toList with
      | ok u => exact absurd hu (hno u)
      | range =>
        obtain ⟨ev, hv, hev⟩ := HT.er
        refine (Tryz.strconv_ParseUint_10_at8_range t ht hu ev w hv hev).mono ?_
        rintro e w' ⟨N, rfl, _, _, hb⟩
        exact ⟨N, rfl, hb⟩
      | _ =>
        rw [hu] at hs
        exact absurd rfl hs

def namesFL : List ByteArray := nameL.map (fun l => ⟨l.toArray⟩)
/-- attrs.flag: of a name's number, or of the digits behind an x. -/
def hexOf (s : ByteArray) : ByteArray := ⟨(Lib.trimPrefix s.data.toList [120]).toArray⟩
def flagV (s : ByteArray) : Nat × Bool :=
  if 0 ≤ Lib.idxOfS namesFL s then (2 ^ (Lib.idxOfS namesFL s).toNat, true)
  else ((r16 (hexOf s)).1, Lib.hasPrefix s.data.toList [120] && decide ((r16 (hexOf s)).2 = 0))

theorem idxFrom_range (x : ByteArray) : ∀ (zs : List ByteArray) (i : Nat), Lib.idxFromS zs x i = -1 ∨ ∃ j : Nat, j < zs.length ∧ Lib.idxFromS zs x i = ((i + j : Nat) : Int)
  | [], i => .inl rfl
  | z :: zs, i => by
    unfold Lib.idxFromS
    split
    · exact .inr ⟨0, by simp, by simp⟩
    · rcases idxFrom_range x zs (i + 1) with h | ⟨j, h1, h2⟩
      · exact .inl h
      · exact .inr ⟨j + 1, by simpa using h1, by rw [h2]; congr 1; omega⟩
theorem idx_range (s : ByteArray) : Lib.idxOfS namesFL s = -1 ∨ ∃ j : Nat, j < 7 ∧ Lib.idxOfS namesFL s = (j : Int) := by
  rcases idxFrom_range s namesFL 0 with h | ⟨j, h1, h2⟩
  · exact .inl h
  · exact .inr ⟨j, h1, by rw [Lib.idxOfS, h2]; congr 1; omega⟩
theorem flagV_lt (s : ByteArray) : (flagV s).1 ≤ 4294967295 := by
  unfold flagV
  split
  · rename_i h
    rcases idx_range s with h1 | ⟨j, h1, h2⟩
    · omega
    · show 2 ^ (Lib.idxOfS namesFL s).toNat ≤ _
      rw [h2, Int.toNat_natCast]
      have : 2 ^ j ≤ 2 ^ 7 := Nat.pow_le_pow_right (by omega) (by omega)
      omega
  · exact (r16_err _).1

theorem index_ok (s : ByteArray) (w : World) (HT : TabA w) :
    Calls Tryz.prog 77 #[.slice (some ⟨0, 0, none⟩) 7 7, .string s] w fun e w' => e = .returned (.int .i64 (Lib.idxOfS namesFL s)) ∧ w' = w := by
  refine (Tryz.slices_Index_string 0 0 7 7 namesFL s w (by decide) (by omega) ?_).mono fun e w' h => h
  intro j hj
  rw [Nat.zero_add]
  have hj' : j < 7 := hj
  refine (HT.tt.nm j hj').trans ?_
  obtain rfl | rfl | rfl | rfl | rfl | rfl | rfl : j = 0 ∨ j = 1 ∨ j = 2 ∨ j = 3 ∨ j = 4 ∨ j = 5 ∨ j = 6 := by omega
  all_goals rfl
set_option maxHeartbeats 4000000 in
set_option maxRecDepth 100000 in
theorem flag_name (s : ByteArray) (j : Nat) (hj : j < 7) (hi : Lib.idxOfS namesFL s = (j : Int)) (w : World) (HT : TabA w) :
    Calls Tryz.prog 63 #[.string s] w fun e w' => e = .returned (.tuple #[.int .u32 ((2 ^ j : Nat) : Int), .bool true]) ∧ Below w.heap.size w w' := by
  have HI := index_ok s w HT
  rw [hi] at HI
  clear hi
  obtain rfl | rfl | rfl | rfl | rfl | rfl | rfl : j = 0 ∨ j = 1 ∨ j = 2 ∨ j = 3 ∨ j = 4 ∨ j = 5 ∨ j = 6 := by omega
  all_goals
    go_enter Tryz.func63, Tryz.ntmps63
    go_wp2_with (go_at_call 77; refine HI.mono ?_; rintro e w' ⟨rfl, rfl⟩)
    go_wp2
    go_ret2
    exact ⟨rfl, Below.refl _ _⟩
set_option maxHeartbeats 4000000 in
set_option maxRecDepth 100000 in
theorem flag_hex (s : ByteArray) (hs : s.size ≤ 281474976710656) (hi : Lib.idxOfS namesFL s = -1) (w : World) (HT : TabA w) :
    Calls Tryz.prog 63 #[.string s] w fun e w' => e = .returned (.tuple #[.int .u32 ((r16 (hexOf s)).1 : Int), .bool (Lib.hasPrefix s.data.toList [120] && decide ((r16 (hexOf s)).2 = 0))]) ∧ Below w.heap.size w w' := by
  have HI := index_ok s w HT
  rw [hi] at HI
  clear hi
  have HC : ∀ W, Calls Tryz.prog 78 #[.string s, .string ⟨#[120]⟩] W fun e w' => e = .returned (.tuple #[.string (hexOf s), .bool (Lib.hasPrefix s.data.toList [120])]) ∧ w' = W := fun W => Tryz.strings_CutPrefix s ⟨#[120]⟩ W
  have hx : (hexOf s).size ≤ 281474976710656 := by
    refine Nat.le_trans ?_ hs
    have e1 : (hexOf s).size = (Lib.trimPrefix s.data.toList [120]).length := by simp [hexOf, ByteArray.size]
    have e2 := Lib.size_eq s
    rw [e1]
    unfold Lib.trimPrefix
    split
    · rw [List.length_drop]; omega
    · omega
  generalize Lib.hasPrefix s.data.toList [120] = hp at HC ⊢
  have hv := (r16_err (hexOf s)).1
  by_cases hok : (r16 (hexOf s)).2 = 0
  · have HP := fun W => pu16_ok (hexOf s) hx hok W
    rw [decide_eq_true hok]
    clear hok hx
    generalize (r16 (hexOf s)).1 = v at HP hv ⊢
    cases hp
    all_goals
      go_enter Tryz.func63, Tryz.ntmps63
      go_wp2_with (go_at_call 77; refine HI.mono ?_; rintro e w' ⟨rfl, rfl⟩)
      go_wp2_with (go_at_call 78; refine (HC _).mono ?_; rintro e w' ⟨rfl, rfl⟩)
      go_wp2_with (go_at_call 64; refine (HP _).mono ?_; rintro e w2 ⟨rfl, hb⟩)
      go_quiet (fail)
      go_wp2
      go_ret2
      exact ⟨rfl, pw_below_drewN hb _⟩
  · have HP := fun W HT => pu16_bad (hexOf s) hx hok W HT
    rw [decide_eq_false hok]
    clear hok hx
    generalize (r16 (hexOf s)).1 = v at HP hv ⊢
    cases hp
    all_goals
      go_enter Tryz.func63, Tryz.ntmps63
      go_wp2_with (go_at_call 77; refine HI.mono ?_; rintro e w' ⟨rfl, rfl⟩)
      go_wp2_with (go_at_call 78; refine (HC _).mono ?_; rintro e w' ⟨rfl, rfl⟩)
      go_wp2_with (go_at_call 64; refine (HP _ (by assumption)).mono ?_; rintro e w2 ⟨N, rfl, hb⟩)
      go_quiet (fail)
      go_wp2
      go_ret2
      exact ⟨rfl, pw_below_drewN hb _⟩

end Go.Proofs.YtbiogabekhegaaaGreatDoor.Hand
