/- The law's alive: two texts read. -/
import Derived.Test.YtbiogabekhegaaaGreatDoorHandTrRead
namespace Go.Proofs.YtbiogabekhegaaaGreatDoor.Hand
open Go.RowKit Go.Proofs.YtbiogabekhegaaaGreatDoorW.PrintWords Go.Proofs.YtbiogabekhegaaaGreatDoorW.PrintLast
set_option linter.unusedVariables false
set_option linter.unusedSimpArgs false
def tWrote : ByteArray := ⟨#[119, 114, 111, 116, 101, 32, 111, 107, 32, 48, 100, 48, 97, 32, 50]⟩
def tRead : ByteArray := ⟨#[114, 101, 97, 100, 32, 102, 97, 105, 108, 32, 48, 53]⟩
theorem pieces_wrote : pieces 32 tWrote = [⟨#[119, 114, 111, 116, 101]⟩, ⟨#[111, 107]⟩, ⟨#[48, 100, 48, 97]⟩, ⟨#[50]⟩] := by decide +kernel
theorem pieces_read : pieces 32 tRead = [⟨#[114, 101, 97, 100]⟩, ⟨#[102, 97, 105, 108]⟩, ⟨#[48, 53]⟩] := by decide +kernel
theorem num2 : numOk ⟨#[50]⟩ = true ∧ atoiV [50] = 2 := by
  constructor
  · decide +kernel
  · decide +kernel
theorem num05 : numOk ⟨#[48, 53]⟩ = false := by decide +kernel
theorem told_0d0a : toldOk [48, 100, 48, 97] = true ∧ toldL [48, 100, 48, 97] = [13, 10] := by
  constructor
  · decide +kernel
  · decide +kernel
theorem read_wrote : readR ⟨#[119, 114, 111, 116, 101]⟩ [⟨#[111, 107]⟩, ⟨#[48, 100, 48, 97]⟩, ⟨#[50]⟩] = (⟨2, 0, 0, 0, [13, 10], 2, true⟩, 0) := by
  unfold readR readW
  rw [show kindOf ⟨#[119, 114, 111, 116, 101]⟩ = some 2 from kindOf_at 2 (by omega)]
  show (match bodyK 2 [⟨#[111, 107]⟩, ⟨#[48, 100, 48, 97]⟩, ⟨#[50]⟩] with | some x => (x, (0 : Int)) | none => (Eff.zero, 8)) = _
  rw [show bodyK 2 [⟨#[111, 107]⟩, ⟨#[48, 100, 48, 97]⟩, ⟨#[50]⟩] = finK 2 [⟨#[48, 100, 48, 97]⟩, ⟨#[50]⟩] ⟨((2 : Nat) : Int), 0, 0, 0, [], 0, true⟩ from body_went (r0 := ⟨#[111, 107]⟩) _ rfl (.inl rfl) (by decide +kernel)]
  rw [fin_ok (k := 2) (r := [⟨#[48, 100, 48, 97]⟩, ⟨#[50]⟩]) (X := ⟨2, 0, 0, 0, [13, 10], 2, true⟩) rfl ?_ ?_]
  · show (toldOk [48, 100, 48, 97] && numOk ⟨#[50]⟩) = true
    rw [told_0d0a.1, num2.1]
    rfl
  · show (⟨_, _, _, _, toldL [48, 100, 48, 97], if toldOk [48, 100, 48, 97] = true then atoiV [50] else 0, _⟩ : Eff) = _
    rw [told_0d0a.1, told_0d0a.2, if_pos rfl, num2.2]
    rfl
theorem read_read : readR ⟨#[114, 101, 97, 100]⟩ [⟨#[102, 97, 105, 108]⟩, ⟨#[48, 53]⟩] = (Eff.zero, 8) := by
  unfold readR readW
  rw [show kindOf ⟨#[114, 101, 97, 100]⟩ = some 3 from kindOf_at 3 (by omega)]
  show (match bodyK 3 [⟨#[102, 97, 105, 108]⟩, ⟨#[48, 53]⟩] with | some x => (x, (0 : Int)) | none => (Eff.zero, 8)) = _
  rw [show bodyK 3 [⟨#[102, 97, 105, 108]⟩, ⟨#[48, 53]⟩] = finK 3 [⟨#[48, 53]⟩] ⟨((3 : Nat) : Int), 0, 0, 0, [], 0, false⟩ from body_went (r0 := ⟨#[102, 97, 105, 108]⟩) _ rfl (.inr rfl) (by decide +kernel)]
  rw [fin_bad (k := 3) (r := [⟨#[48, 53]⟩])]
  exact num05
set_option maxHeartbeats 8000000 in
set_option maxRecDepth 100000 in
theorem alive_ok (w : World) (HT : TabA w) : Calls Tryz.prog 8 #[] w fun e w' => e = .returned (.bool true) ∧ Below w.heap.size w w' := by
  have H1 := read_core tWrote _ _ (by decide) pieces_wrote w HT
  rw [read_wrote] at H1
  have H2 := fun W hT => read_core tRead _ _ (by decide) pieces_read W hT
  rw [read_read] at H2
  unfold tWrote at H1
  unfold tRead at H2
  unfold RdPost effC Eff.zero at H2
  unfold RdPost effC at H1
  go_enter Tryz.func8, Tryz.ntmps8
  go_wp2_with (fail)
  refine H1.mono ?_
  rintro e w1 ⟨v, rfl, hR, hb⟩
  obtain ⟨A, c, rfl⟩ := Kd.R_slice hR
  have hB1 : Below w.heap.size w (w1.alloc (.cells #[.int .i64 2, .int .u32 0, .int .u8 0, .int .u8 0, .slice A 2 c, .int .i64 2, .bool true] 27)) := hb.alloc hb.size _
  have H2' := H2 _ (HT.below hB1)
  have hE := heap_alloc_new w1 (.cells #[.int .i64 2, .int .u32 0, .int .u8 0, .int .u8 0, .slice A 2 c, .int .i64 2, .bool true] 27)
  have hRA := Aside0.mk (Kd.R_below hR ((Below.refl _ w1).alloc (Nat.le_refl _) (.cells #[.int .i64 2, .int .u32 0, .int .u8 0, .int .u8 0, .slice A 2 c, .int .i64 2, .bool true] 27)))
  have hEA := Aside0.mk hE
  have hBA := Aside0.mk hB1
  clear H1 H2 hR hE hB1
  have z1 : ([13, 10] : List Int).length = 2 := rfl
  rw [z1]
  go_wp2_with (fail)
  refine H2'.mono ?_
  rintro e w2 ⟨v2, rfl, hR2, hb2⟩
  obtain ⟨A2, c2, rfl⟩ := Kd.R_slice hR2
  have hb3 := hb2.alloc hb2.size (.cells #[.int .i64 0, .int .u32 0, .int .u8 0, .int .u8 0, .slice A2 0 c2, .int .i64 0, .bool false] 27)
  have hE3 := (hb3.block _ (blk_lt hEA.out)).trans hEA.out
  have hC3 := (Kd.R_reads' (Kd.R_below hRA.out hb3)).2.2
  have hB3 := Aside0.mk (hBA.out.trans (hb3.mono hBA.out.size))
  have hcv := Kd.C_string (P := Tryz.prog) (c := c) Tryz.underlying22 Tryz.underlying5 Tryz.underlying9 hC3
  have hsn : strOfNums [13, 10] = ⟨#[13, 10]⟩ := by decide +kernel
  rw [hsn] at hcv
  have z1 : ([13, 10] : List Int).length = 2 := rfl
  rw [z1] at hcv
  have z2 : ([] : List Int).length = 0 := rfl
  rw [z2]
  clear H2' hRA hEA hBA hb3 hC3 hb2 hR2 hsn
  go_upto_region 3 with (fail)
  generalize w2.alloc (.cells #[.int .i64 0, .int .u32 0, .int .u8 0, .int .u8 0, .slice A2 0 c2, .int .i64 0, .bool false] 27) = W at *
  have c0 := (blk_cell hE3 0).trans rfl
  have c4 := (blk_cell hE3 4).trans rfl
  have c5 := (blk_cell hE3 5).trans rfl
  have c6 := (blk_cell hE3 6).trans rfl
  clear hE3
  have ht : (([13, 10] : List UInt8) == [13, 10]) = true := rfl
  go_wp2_with (fail)
  go_ret
  exact ⟨rfl, hB3.out⟩
end Go.Proofs.YtbiogabekhegaaaGreatDoor.Hand
