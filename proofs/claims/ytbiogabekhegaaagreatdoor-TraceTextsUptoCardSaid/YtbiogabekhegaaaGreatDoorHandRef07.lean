/- The document's Hex, went, Line. -/
import Derived.Test.YtbiogabekhegaaaGreatDoorHandRefA7
import Derived.Test.YtbiogabekhegaaaGreatDoorHandLine7c
namespace Go.Proofs.YtbiogabekhegaaaGreatDoor.Hand
open Go.RowKit Go.Proofs.YtbiogabekhegaaaGreatDoorW.PrintWords Go.Proofs.YtbiogabekhegaaaGreatDoorW.PrintLast
open Go.Proofs.YtbiogabekhegaaaGreatDoor.PWritten (S27 S25 k27 z27 rd_T27 at_T27 k27_mk)
set_option linter.unusedVariables false
set_option linter.unusedSimpArgs false
theorem dig_cut : ∀ d : Fin 16, (⟨#[48, 49, 50, 51, 52, 53, 54, 55, 56, 57, 97, 98, 99, 100, 101, 102]⟩ : ByteArray).extract d.val (d.val + 1) = ⟨#[hexD d.val]⟩ := by decide +kernel
theorem u8_parts : ∀ m : Fin 256, IntKind.u8.wrap ((m.val : Int) / 16) = ((m.val / 16 : Nat) : Int) ∧ IntKind.u8.wrap (IntKind.u8.wrap ((m.val : Int) / 16) + 1) = ((m.val / 16 + 1 : Nat) : Int) ∧ Int.tmod (m.val : Int) 16 = ((m.val % 16 : Nat) : Int) ∧ IntKind.u8.wrap (Int.tmod (m.val : Int) 16 + 1) = ((m.val % 16 + 1 : Nat) : Int) := by decide +kernel
set_option maxRecDepth 100000 in
theorem dig_slice (d : Nat) (hd : d < 16) (W : World) : (Instr.slice 9 (.string ⟨#[48, 49, 50, 51, 52, 53, 54, 55, 56, 57, 97, 98, 99, 100, 101, 102]⟩) (some (.int .u8 (d : Nat))) (some (.int .u8 ((d + 1 : Nat) : Int))) none).run Tryz.prog W = .ok (.string ⟨#[hexD d]⟩) W := by
  obtain rfl | rfl | rfl | rfl | rfl | rfl | rfl | rfl | rfl | rfl | rfl | rfl | rfl | rfl | rfl | rfl : d = 0 ∨ d = 1 ∨ d = 2 ∨ d = 3 ∨ d = 4 ∨ d = 5 ∨ d = 6 ∨ d = 7 ∨ d = 8 ∨ d = 9 ∨ d = 10 ∨ d = 11 ∨ d = 12 ∨ d = 13 ∨ d = 14 ∨ d = 15 := by omega
  all_goals rfl
theorem dig_slice' (d : Nat) (lo hi : Int) (hd : d < 16) (h1 : lo = (d : Nat)) (h2 : hi = ((d + 1 : Nat) : Int)) (W : World) : (Instr.slice 9 (.string ⟨#[48, 49, 50, 51, 52, 53, 54, 55, 56, 57, 97, 98, 99, 100, 101, 102]⟩) (some (.int .u8 lo)) (some (.int .u8 hi)) none).run Tryz.prog W = .ok (.string ⟨#[hexD d]⟩) W := by
  subst h1 h2
  exact dig_slice d hd W
theorem hexL_take {l : List Int} {x : Nat} (h : x < l.length) : hexL (l.take (x + 1)) = hexL (l.take x) ++ [hexD (rd l x / 16).toNat] ++ [hexD (rd l x % 16).toNat] := by rw [take_rdI h, hexL_snoc]
set_option maxHeartbeats 2000000 in
set_option maxRecDepth 100000 in
theorem refHex_ok (l : List Int) (A : Option Addr) (c : Nat) (w : World) (hC : Kd.C (Kd.int .u8) w A l.length l) (hwf : ∀ x ∈ l, 0 ≤ x ∧ x ≤ 255) (hn : l.length ≤ 1000000000) :
    Calls Tryz.prog 30 #[.slice A l.length c] w fun e w' => e = .returned (.string (hexB l)) ∧ Below w.heap.size w w' := by
  have hCA := Aside0.mk hC
  have hwA := Aside0.mk hwf
  clear hC hwf
  by_cases hl : l = []
  · subst hl
    have z0 : ([] : List Int).length = 0 := rfl
    rw [z0]
    go_enter Tryz.func30, Tryz.ntmps30
    go_wp2_with (fail)
    go_ret
    exact ⟨rfl, Below.refl _ _⟩
  · have hB : hexB l = ⟨(hexL l).toArray⟩ := if_neg hl
    have hl0 : l.length ≠ 0 := fun e => hl (List.eq_nil_of_length_eq_zero e)
    have hBA := Aside0.mk hB
    clear hl hB
    generalize hnn : l.length = n at *
    have hnA := Aside0.mk hnn
    clear hnn
    have hneI : ((n : Int) == 0) = false := by simp; omega
    go_enter Tryz.func30, Tryz.ntmps30
    go_wp2_with (fail)
    go_loopw [3, 4] (fun v3 v4 wr => ∃ x : Int, v4 = .int .i64 x ∧ Aside0 (0 ≤ x ∧ x ≤ n) ∧ v3 = .string (ba (hexL (l.take x.toNat))) ∧ Aside0 (Below w.heap.size w wr)) (fun _ v4 _ => n - (intOf v4).toNat)
    case atStart => exact ⟨0, rfl, ⟨by omega⟩, rfl, ⟨Below.refl _ _⟩⟩
    case round =>
      obtain ⟨x, rfl, hxr, rfl, hb⟩ := hrel
      by_cases hlt : x < n
      · have h0 : 0 ≤ x := hxr.out.1
        obtain ⟨ad, ea, hcell⟩ := Kd.at_int (Kd.C_below hCA.out hb.out) x h0 hlt
        have hy : 0 ≤ rd l x ∧ rd l x ≤ 255 := hwA.out _ (by unfold rd; rw [List.getD_eq_getElem?_getD, List.getElem?_eq_getElem (by rw [hnA.out]; omega)]; exact List.getElem_mem _)
        have hsn := hexL_take (l := l) (x := x.toNat) (by rw [hnA.out]; omega)
        rw [show ((x.toNat : Nat) : Int) = x by omega] at hsn
        have hll : (ba (hexL (l.take x.toNat))).size ≤ 2000000000 := by rw [Lib.size_eq, data_ba, hexL_length, List.length_take]; have := hnA.out; omega
        have hsA := Aside0.mk hsn
        clear hsn
        subst ea
        generalize rd l x = y at *
        obtain ⟨m, rfl⟩ := Int.eq_ofNat_of_zero_le hy.1
        have hm : m < 256 := by omega
        generalize hexL (l.take x.toNat) = acc at *
        clear hy
        obtain ⟨p1, p2, p3, p4⟩ := u8_parts ⟨m, hm⟩
        simp only at p1 p2 p3 p4
        have e1 : ((m : Int) / 16) % 256 = ((m / 16 : Nat) : Int) := by omega
        have e2 : ((m : Int) / 16 + 1) % 256 = ((m / 16 + 1 : Nat) : Int) := by omega
        have e3 : (m : Int) % 16 = ((m % 16 : Nat) : Int) := by omega
        have e4 : ((m : Int) % 16 + 1) % 256 = ((m % 16 + 1 : Nat) : Int) := by omega
        have e5 : IntKind.u8.wrap ((m : Int) % 16 + 1) = ((m % 16 + 1 : Nat) : Int) := by rw [e3, ← p3]; exact p4
        have e6 : (m : Int) % 16 + 1 = ((m % 16 + 1 : Nat) : Int) := by omega
        have e7 : Int.tmod (m : Int) 16 + 1 = ((m % 16 + 1 : Nat) : Int) := by rw [p3]; omega
        have e8 : (m : Int) / 16 + 1 = ((m / 16 + 1 : Nat) : Int) := by omega
        have e9 : (m : Int) / 16 = ((m / 16 : Nat) : Int) := by omega
        have s1 : ∀ W : World, (Instr.slice 9 (.string ⟨#[48, 49, 50, 51, 52, 53, 54, 55, 56, 57, 97, 98, 99, 100, 101, 102]⟩) (some (.int .u8 (IntKind.u8.wrap ((m : Int) / 16)))) (some (.int .u8 (IntKind.u8.wrap (IntKind.u8.wrap ((m : Int) / 16) + 1)))) none).run Tryz.prog W = .ok (.string ⟨#[hexD (m / 16)]⟩) W := dig_slice' (m / 16) _ _ (by omega) p1 p2
        have s2 : ∀ W : World, (Instr.slice 9 (.string ⟨#[48, 49, 50, 51, 52, 53, 54, 55, 56, 57, 97, 98, 99, 100, 101, 102]⟩) (some (.int .u8 (IntKind.u8.wrap ((m : Int) / 16)))) (some (.int .u8 (((m : Int) / 16 + 1) % 256))) none).run Tryz.prog W = .ok (.string ⟨#[hexD (m / 16)]⟩) W := dig_slice' (m / 16) _ _ (by omega) p1 e2
        have s3 : ∀ W : World, (Instr.slice 9 (.string ⟨#[48, 49, 50, 51, 52, 53, 54, 55, 56, 57, 97, 98, 99, 100, 101, 102]⟩) (some (.int .u8 (IntKind.u8.wrap ((m : Int) / 16)))) (some (.int .u8 ((m : Int) / 16 + 1))) none).run Tryz.prog W = .ok (.string ⟨#[hexD (m / 16)]⟩) W := dig_slice' (m / 16) _ _ (by omega) p1 e8
        have s4 : ∀ W : World, (Instr.slice 9 (.string ⟨#[48, 49, 50, 51, 52, 53, 54, 55, 56, 57, 97, 98, 99, 100, 101, 102]⟩) (some (.int .u8 (((m : Int) / 16) % 256))) (some (.int .u8 (IntKind.u8.wrap (IntKind.u8.wrap ((m : Int) / 16) + 1)))) none).run Tryz.prog W = .ok (.string ⟨#[hexD (m / 16)]⟩) W := dig_slice' (m / 16) _ _ (by omega) e1 p2
        have s5 : ∀ W : World, (Instr.slice 9 (.string ⟨#[48, 49, 50, 51, 52, 53, 54, 55, 56, 57, 97, 98, 99, 100, 101, 102]⟩) (some (.int .u8 (((m : Int) / 16) % 256))) (some (.int .u8 (((m : Int) / 16 + 1) % 256))) none).run Tryz.prog W = .ok (.string ⟨#[hexD (m / 16)]⟩) W := dig_slice' (m / 16) _ _ (by omega) e1 e2
        have s6 : ∀ W : World, (Instr.slice 9 (.string ⟨#[48, 49, 50, 51, 52, 53, 54, 55, 56, 57, 97, 98, 99, 100, 101, 102]⟩) (some (.int .u8 (((m : Int) / 16) % 256))) (some (.int .u8 ((m : Int) / 16 + 1))) none).run Tryz.prog W = .ok (.string ⟨#[hexD (m / 16)]⟩) W := dig_slice' (m / 16) _ _ (by omega) e1 e8
        have s7 : ∀ W : World, (Instr.slice 9 (.string ⟨#[48, 49, 50, 51, 52, 53, 54, 55, 56, 57, 97, 98, 99, 100, 101, 102]⟩) (some (.int .u8 ((m : Int) / 16))) (some (.int .u8 (IntKind.u8.wrap (IntKind.u8.wrap ((m : Int) / 16) + 1)))) none).run Tryz.prog W = .ok (.string ⟨#[hexD (m / 16)]⟩) W := dig_slice' (m / 16) _ _ (by omega) e9 p2
        have s8 : ∀ W : World, (Instr.slice 9 (.string ⟨#[48, 49, 50, 51, 52, 53, 54, 55, 56, 57, 97, 98, 99, 100, 101, 102]⟩) (some (.int .u8 ((m : Int) / 16))) (some (.int .u8 (((m : Int) / 16 + 1) % 256))) none).run Tryz.prog W = .ok (.string ⟨#[hexD (m / 16)]⟩) W := dig_slice' (m / 16) _ _ (by omega) e9 e2
        have s9 : ∀ W : World, (Instr.slice 9 (.string ⟨#[48, 49, 50, 51, 52, 53, 54, 55, 56, 57, 97, 98, 99, 100, 101, 102]⟩) (some (.int .u8 ((m : Int) / 16))) (some (.int .u8 ((m : Int) / 16 + 1))) none).run Tryz.prog W = .ok (.string ⟨#[hexD (m / 16)]⟩) W := dig_slice' (m / 16) _ _ (by omega) e9 e8
        have s10 : ∀ W : World, (Instr.slice 9 (.string ⟨#[48, 49, 50, 51, 52, 53, 54, 55, 56, 57, 97, 98, 99, 100, 101, 102]⟩) (some (.int .u8 (Int.tmod (m : Int) 16))) (some (.int .u8 (IntKind.u8.wrap (Int.tmod (m : Int) 16 + 1)))) none).run Tryz.prog W = .ok (.string ⟨#[hexD (m % 16)]⟩) W := dig_slice' (m % 16) _ _ (by omega) p3 p4
        have s11 : ∀ W : World, (Instr.slice 9 (.string ⟨#[48, 49, 50, 51, 52, 53, 54, 55, 56, 57, 97, 98, 99, 100, 101, 102]⟩) (some (.int .u8 (Int.tmod (m : Int) 16))) (some (.int .u8 (IntKind.u8.wrap ((m : Int) % 16 + 1)))) none).run Tryz.prog W = .ok (.string ⟨#[hexD (m % 16)]⟩) W := dig_slice' (m % 16) _ _ (by omega) p3 e5
        have s12 : ∀ W : World, (Instr.slice 9 (.string ⟨#[48, 49, 50, 51, 52, 53, 54, 55, 56, 57, 97, 98, 99, 100, 101, 102]⟩) (some (.int .u8 (Int.tmod (m : Int) 16))) (some (.int .u8 (((m : Int) % 16 + 1) % 256))) none).run Tryz.prog W = .ok (.string ⟨#[hexD (m % 16)]⟩) W := dig_slice' (m % 16) _ _ (by omega) p3 e4
        have s13 : ∀ W : World, (Instr.slice 9 (.string ⟨#[48, 49, 50, 51, 52, 53, 54, 55, 56, 57, 97, 98, 99, 100, 101, 102]⟩) (some (.int .u8 (Int.tmod (m : Int) 16))) (some (.int .u8 ((m : Int) % 16 + 1))) none).run Tryz.prog W = .ok (.string ⟨#[hexD (m % 16)]⟩) W := dig_slice' (m % 16) _ _ (by omega) p3 e6
        have s14 : ∀ W : World, (Instr.slice 9 (.string ⟨#[48, 49, 50, 51, 52, 53, 54, 55, 56, 57, 97, 98, 99, 100, 101, 102]⟩) (some (.int .u8 (Int.tmod (m : Int) 16))) (some (.int .u8 (Int.tmod (m : Int) 16 + 1))) none).run Tryz.prog W = .ok (.string ⟨#[hexD (m % 16)]⟩) W := dig_slice' (m % 16) _ _ (by omega) p3 e7
        have s15 : ∀ W : World, (Instr.slice 9 (.string ⟨#[48, 49, 50, 51, 52, 53, 54, 55, 56, 57, 97, 98, 99, 100, 101, 102]⟩) (some (.int .u8 ((m : Int) % 16))) (some (.int .u8 (IntKind.u8.wrap (Int.tmod (m : Int) 16 + 1)))) none).run Tryz.prog W = .ok (.string ⟨#[hexD (m % 16)]⟩) W := dig_slice' (m % 16) _ _ (by omega) e3 p4
        have s16 : ∀ W : World, (Instr.slice 9 (.string ⟨#[48, 49, 50, 51, 52, 53, 54, 55, 56, 57, 97, 98, 99, 100, 101, 102]⟩) (some (.int .u8 ((m : Int) % 16))) (some (.int .u8 (IntKind.u8.wrap ((m : Int) % 16 + 1)))) none).run Tryz.prog W = .ok (.string ⟨#[hexD (m % 16)]⟩) W := dig_slice' (m % 16) _ _ (by omega) e3 e5
        have s17 : ∀ W : World, (Instr.slice 9 (.string ⟨#[48, 49, 50, 51, 52, 53, 54, 55, 56, 57, 97, 98, 99, 100, 101, 102]⟩) (some (.int .u8 ((m : Int) % 16))) (some (.int .u8 (((m : Int) % 16 + 1) % 256))) none).run Tryz.prog W = .ok (.string ⟨#[hexD (m % 16)]⟩) W := dig_slice' (m % 16) _ _ (by omega) e3 e4
        have s18 : ∀ W : World, (Instr.slice 9 (.string ⟨#[48, 49, 50, 51, 52, 53, 54, 55, 56, 57, 97, 98, 99, 100, 101, 102]⟩) (some (.int .u8 ((m : Int) % 16))) (some (.int .u8 ((m : Int) % 16 + 1))) none).run Tryz.prog W = .ok (.string ⟨#[hexD (m % 16)]⟩) W := dig_slice' (m % 16) _ _ (by omega) e3 e6
        have s19 : ∀ W : World, (Instr.slice 9 (.string ⟨#[48, 49, 50, 51, 52, 53, 54, 55, 56, 57, 97, 98, 99, 100, 101, 102]⟩) (some (.int .u8 ((m : Int) % 16))) (some (.int .u8 (Int.tmod (m : Int) 16 + 1))) none).run Tryz.prog W = .ok (.string ⟨#[hexD (m % 16)]⟩) W := dig_slice' (m % 16) _ _ (by omega) e3 e7
        have hc1 : (ba acc).size + 1 ≤ 9223372036854775807 := by omega
        have hc2 : (ba acc).size + 1 + 1 ≤ 9223372036854775807 := by omega
        have hw64 : wrap64 (x + 1) = x + 1 := by unfold wrap64; omega
        have hfin : Aside0 (hexL (l.take (x.toNat + 1)) = acc ++ [hexD (m / 16)] ++ [hexD (m % 16)]) := ⟨by rw [hsA.out, show ((m : Int) / 16).toNat = m / 16 by omega, show ((m : Int) % 16).toNat = m % 16 by omega]⟩
        clear p1 p2 p3 p4 e1 e2 e3 e4 e5 e6 e7 e8 e9 hm hsA
        generalize hexD (m / 16) = D1 at *
        generalize hexD (m % 16) = D2 at *
        go_wp2_with (fail)
        go_region_with (fail)
        all_goals
          go_wp2_with (fail)
          go_roundw
          case rel =>
            refine ⟨x + 1, by go_num, ⟨by omega⟩, ?_, ⟨by first | exact hb.out | exact below_drew1 hb.out⟩⟩
            rw [show (x + 1).toNat = x.toNat + 1 by omega, hfin.out]
            first
            | rfl
            | (refine congrArg Value.string (ba_ext ?_); simp [ba])
          case measure => simp [intOf]; omega
      · have hxn : x = n := by have := hxr.out; omega
        subst hxn
        rw [Int.toNat_natCast, List.take_of_length_le (by rw [hnA.out]; exact Nat.le_refl _)]
        go_wp2_with (fail)
        go_ret
        exact ⟨by rw [hBA.out]; rfl, hb.out⟩
end Go.Proofs.YtbiogabekhegaaaGreatDoor.Hand
