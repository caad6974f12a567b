/- internal/strconv.ParseUint to the base 16, at 32 bits. -/
import Derived.Test.YtbiogabekhegaaaGreatDoorHandPlain
import Derived.Test.YtbiogabekhegaaaGreatDoorHandLaid
import Derived.Lib.Strings
import Derived.Lib.Walk
import Derived.Lib.ConvBytes
import Derived.Lib.AtoiErrMem
import Derived.Lib.Hide
import Derived.Laws.Strings3
import Derived.Laws.Closers25
import Derived.Laws.Closers25b
import Derived.WalkKit
import Derived.BigCall
import Derived.BigGuard
namespace Go.Proofs.YtbiogabekhegaaaGreatDoor.Hand
open Go.RowKit
set_option linter.unusedVariables false
set_option linter.unusedSimpArgs false

/-- A byte, its bit 32 set. -/
def low (c : UInt8) : Nat := (bits .or .u8 (c.toNat : Int) 32).toNat
theorem low_eq (c : UInt8) : bits .or .u8 (c.toNat : Int) 32 = (low c : Int) := by
  have := bits_lo_u8 .or (c.toNat : Int) 32
  unfold low; omega
theorem low_lt (c : UInt8) : low c < 256 := by
  have := bits_hi_u8 .or (c.toNat : Int) 32
  unfold low; omega
/-- A byte's value as a digit to the base 16; 16: it is none. -/
def hexd (c : UInt8) : Nat := if 48 ≤ c.toNat ∧ c.toNat ≤ 57 then c.toNat - 48 else if 97 ≤ low c ∧ low c ≤ 102 then low c - 87 else 16
/-- What ParseUint of the base 16 and 32 bits answers, acc of it read: the number, and the error's number. -/
def p16 : Nat → List UInt8 → Nat × Int
  | acc, [] => (acc, 0)
  | acc, c :: r => if hexd c < 16 then (if 4294967295 < acc * 16 + hexd c then (4294967295, 1) else p16 (acc * 16 + hexd c) r) else (0, 2)
def errI (k : Int) : Value := if k = 0 then .nilIface else .iface 136 (.int .i64 k)

theorem lower_ok (c : Int) (w : World) : Calls Tryz.prog 103 #[.int .u8 c] w fun e w' => e = .returned (.int .u8 (bits .or .u8 c 32)) ∧ w' = w := by
  go_enter Tryz.func103, Tryz.ntmps103
  go_wp2
  go_ret
  exact ⟨rfl, rfl⟩

set_option maxHeartbeats 32000000 in
set_option maxRecDepth 100000 in
theorem parse16_in (t : ByteArray) (hne : t.size ≠ 0) (hmax : t.size ≤ 9223372036854775806) (w : World) :
    Calls Tryz.prog 79 #[.string t, .int .i64 16, .int .i64 32] w fun e w' => e = .returned (.tuple #[.int .u64 (p16 0 t.data.toList).1, errI (p16 0 t.data.toList).2]) ∧ w' = Lib.bytesWorld w 5 t := by
  have hemp : t.toList.isEmpty = false := by
    rw [← decide_eq_emptyBytes]
    exact decide_eq_false (fun h => hne (by rw [h]; rfl))
  have hcv := Lib.run_convert_string_bytes (P := Tryz.prog) w 9 22 5 t (u := .string) Tryz.underlying9 Tryz.underlying22 Tryz.underlying5
  have hB : ∀ j, j < t.size → (Lib.bytesWorld w 5 t).cell? ⟨w.heap.size, j, none⟩ = some (.int .u8 (t.data.toList.getD j 0).toNat) := fun j hj => Lib.bytesWorld_cell w 5 t j hj
  obtain ⟨W1, hW1⟩ : ∃ W1, W1 = Lib.bytesWorld w 5 t := ⟨_, rfl⟩
  rw [← hW1] at hcv hB ⊢
  clear hW1
  obtain ⟨bs, hL⟩ : ∃ bs, bs = t.data.toList := ⟨_, rfl⟩
  have hLn : bs.length = t.size := by rw [hL, Lib.size_eq]
  rw [← hL] at hB ⊢
  clear hL
  have hmv : IntKind.u64.wrap (IntKind.u64.wrap 4294967296 - 1) = 4294967295 := by
    rw [IntKind.wrap_u64, IntKind.wrap_u64]
    decide
  go_enter Tryz.func79, Tryz.ntmps79
  go_wp2
  go_loop [12, 13, 101] (fun vu vn vi => ∃ (k acc : Nat) (a : Int), vu = .bool false ∧ vn = .int .u64 a ∧ vi = .int .i64 k ∧ k ≤ t.size ∧ Hid (a = (acc : Int) ∧ acc ≤ 4294967295 ∧ p16 0 bs = p16 acc (bs.drop k)))
    (fun _ _ vi => t.size - (intOf vi).toNat)
  case atStart => exact ⟨0, 0, 0, rfl, rfl, rfl, by omega, rfl, by omega, rfl⟩
  case round =>
    obtain ⟨k, acc, a, rfl, rfl, rfl, hk, hh⟩ := hrel
    obtain ⟨ha, hacc, hdec⟩ := hh.out
    clear hh
    have a0 : 0 ≤ a := by omega
    have a1 : a ≤ 4294967295 := by omega
    by_cases hkn : k < t.size
    · have hc := hB k hkn
      have hdrop : bs.drop k = bs[k]'(by omega) :: bs.drop (k + 1) := List.drop_eq_getElem_cons (by omega)
      have hget : bs.getD k 0 = bs[k]'(by omega) := by simp [List.getD, List.getElem?_eq_getElem (show k < bs.length by omega)]
      rw [hdrop] at hdec
      rw [hget] at hc
      generalize bs[k]'(by omega) = c at hc hdec
      have hc256 : c.toNat < 256 := c.toNat_lt
      have hlo := low_eq c
      have hl256 := low_lt c
      clear hB hdrop hget
      by_cases hdig : 48 ≤ c.toNat ∧ c.toNat ≤ 57
      · have hx : hexd c = c.toNat - 48 := by unfold hexd; rw [if_pos hdig]
        obtain ⟨hd0, hd1⟩ := hdig
        rw [p16, hx, if_pos (by omega)] at hdec
        clear hlo hl256 hx
        by_cases hov : 4294967295 < acc * 16 + (c.toNat - 48)
        · rw [if_pos hov] at hdec
          have iov : 4294967295 < a * 16 + ((c.toNat : Int) - 48) := by omega
          have HD := Lib.hid hdec
          clear hacc hov ha hdec
          go_wp2
          go_ret2
          exact ⟨by rw [HD.out]; rfl, rfl⟩
        · rw [if_neg hov] at hdec
          have HN : Hid (a * 16 + ((c.toNat : Int) - 48) = ((acc * 16 + (c.toNat - 48) : Nat) : Int) ∧ acc * 16 + (c.toNat - 48) ≤ 4294967295 ∧ p16 0 bs = p16 (acc * 16 + (c.toNat - 48)) (bs.drop (k + 1))) := Lib.hid ⟨by omega, by omega, hdec⟩
          have iov : a * 16 + ((c.toNat : Int) - 48) ≤ 4294967295 := by omega
          clear hacc hov hdec ha
          go_wp2
          refine ⟨⟨k + 1, acc * 16 + (c.toNat - 48), a * 16 + ((c.toNat : Int) - 48), rfl, (by first | rfl | (congr 1; omega)), (by first | rfl | (congr 1; omega)), by omega, HN⟩, by simp [intOf]; omega⟩
      · by_cases hlet : 97 ≤ low c ∧ low c ≤ 102
        · have hx : hexd c = low c - 87 := by unfold hexd; rw [if_neg hdig, if_pos hlet]
          have h95 : (c.toNat : Int) ≠ 95 := by
            intro h
            have h2 : c = 95 := UInt8.toNat_inj.mp (by show c.toNat = 95; omega)
            subst h2
            revert hlet
            decide
          obtain ⟨hd0, hd1⟩ := hlet
          rw [p16, hx, if_pos (by omega)] at hdec
          clear hx
          by_cases hov : 4294967295 < acc * 16 + (low c - 87)
          · rw [if_pos hov] at hdec
            have iov : 4294967295 < a * 16 + ((low c : Int) - 87) := by omega
            have HD := Lib.hid hdec
            clear hacc hov ha hdec
            go_wp2_with (go_at_call 103; refine (lower_ok _ _).mono ?_; rintro e w' ⟨rfl, rfl⟩; rw [hlo])
            all_goals go_ret2
            all_goals exact ⟨by rw [HD.out]; rfl, rfl⟩
          · rw [if_neg hov] at hdec
            have HN : Hid (a * 16 + ((low c : Int) - 87) = ((acc * 16 + (low c - 87) : Nat) : Int) ∧ acc * 16 + (low c - 87) ≤ 4294967295 ∧ p16 0 bs = p16 (acc * 16 + (low c - 87)) (bs.drop (k + 1))) := Lib.hid ⟨by omega, by omega, hdec⟩
            have iov : a * 16 + ((low c : Int) - 87) ≤ 4294967295 := by omega
            clear hacc hov hdec ha
            go_wp2_with (go_at_call 103; refine (lower_ok _ _).mono ?_; rintro e w' ⟨rfl, rfl⟩; rw [hlo])
            all_goals (refine ⟨⟨k + 1, acc * 16 + (low c - 87), a * 16 + ((low c : Int) - 87), rfl, (by first | rfl | (congr 1; omega)), (by first | rfl | (congr 1; omega)), by omega, HN⟩, by simp [intOf]; omega⟩)
        · have hx : hexd c = 16 := by unfold hexd; rw [if_neg hdig, if_neg hlet]
          rw [p16, hx, if_neg (by omega)] at hdec
          have HD := Lib.hid hdec
          have hu : bits .or .u8 95 32 = 127 := by decide
          clear hacc ha hx hdec
          go_wp2_with (go_at_call 103; refine (lower_ok _ _).mono ?_; rintro e w' ⟨rfl, rfl⟩; first | rw [hlo] | rw [hu])
          all_goals go_ret2
          all_goals exact ⟨by rw [HD.out]; rfl, rfl⟩
    · have hkk : k = t.size := by omega
      subst hkk
      have hF : p16 acc (bs.drop t.size) = (acc, 0) := by rw [List.drop_eq_nil_of_le (by omega)]; rfl
      rw [hF] at hdec
      subst ha
      have HD := Lib.hid hdec
      clear hacc hF a0 a1 hdec
      go_wp2
      go_ret2
      exact ⟨by rw [HD.out]; rfl, rfl⟩

set_option maxHeartbeats 4000000 in
set_option maxRecDepth 100000 in
theorem parse16_empty (w : World) :
    Calls Tryz.prog 79 #[.string ⟨#[]⟩, .int .i64 16, .int .i64 32] w fun e w' => e = .returned (.tuple #[.int .u64 0, errI 2]) ∧ w' = w := by
  go_enter Tryz.func79, Tryz.ntmps79
  go_wp2
  go_ret2
  exact ⟨rfl, rfl⟩

end Go.Proofs.YtbiogabekhegaaaGreatDoor.Hand
