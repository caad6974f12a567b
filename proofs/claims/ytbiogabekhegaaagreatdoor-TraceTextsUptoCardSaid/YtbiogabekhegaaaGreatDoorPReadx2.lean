-- Printed by a changed copy of the kit's print program that takes contracts proved by hand. Not trusted: Lean checks it.
import Derived.Test.YtbiogabekhegaaaGreatDoorPReadx0
import Derived.Test.YtbiogabekhegaaaGreatDoorPReadx1
namespace Go.Proofs.YtbiogabekhegaaaGreatDoor.PRead
set_option linter.unusedVariables false
open Go.RowKit Go.Proofs.YtbiogabekhegaaaGreatDoorW.PrintWords Go.Proofs.YtbiogabekhegaaaGreatDoorW.PrintLast Go.Proofs.YtbiogabekhegaaaGreatDoorW.PrintMore
attribute [local go_sem] max2_int min2_int max_two min_two max_three min_three max_four min_four   -- for this text's walks alone
set_option linter.unusedVariables false
set_option linter.unusedSimpArgs false

/-! ### whispererref06_flags: function 58 -/
mutual
def whispererref06_flags.l0 : Nat → Int → List ByteArray → List ByteArray → Int → Option (Int)
  | 0, _, _, _, _ => none
  | k + 1, x3, x4, x5, x6 => if x6 < (x4.length : Int) then (whispererref06_flags.l1 k x3 x4 x5 x6 1 0) else (some x3)
def whispererref06_flags.l1 : Nat → Int → List ByteArray → List ByteArray → Int → Int → Int → Option (Int)
  | 0, _, _, _, _, _, _ => none
  | k + 1, x3, x4, x5, x6, x7, x8 => if x8 < (x5.length : Int) then (if 0 ≤ x6 then (if x6 < (x4.length : Int) then (if 0 ≤ x8 then (if (rdOf ByteArray.empty x4 x6).toList = (rdOf ByteArray.empty x5 x8).toList then (whispererref06_flags.l1 k ((x3 + x7) % 4294967296) x4 x5 x6 ((x7 * 2) % 4294967296) (wrap64 (x8 + 1))) else (whispererref06_flags.l1 k x3 x4 x5 x6 ((x7 * 2) % 4294967296) (wrap64 (x8 + 1)))) else (none)) else (none)) else (none)) else (if 0 ≤ x6 then (if x6 < (x4.length : Int) then (if ((rdOf ByteArray.empty x4 x6).size : Int) > 1 then (if 0 < ((rdOf ByteArray.empty x4 x6).size : Int) then (whispererref06_flags.j2 k x3 x4 x5 x6 ((bt (rdOf ByteArray.empty x4 x6) 0) == 120)) else (none)) else (whispererref06_flags.j2 k x3 x4 x5 x6 false)) else (none)) else (none))
def whispererref06_flags.j2 : Nat → Int → List ByteArray → List ByteArray → Int → Bool → Option (Int)
  | 0, _, _, _, _, _ => none
  | k + 1, x3, x4, x5, x6, x52 => if x52 = true then (if 0 ≤ x6 then (if x6 < (x4.length : Int) then (if 1 ≤ ((rdOf ByteArray.empty x4 x6).size : Int) then ((PNumber.whispererref06_Number.f k ((rdOf ByteArray.empty x4 x6).extract 1 (rdOf ByteArray.empty x4 x6).size) 16 8).bind fun t126 => (if t126 > 0 then (whispererref06_flags.l0 k ((x3 + ((t126) % 4294967296)) % 4294967296) x4 x5 (wrap64 (x6 + 1))) else (whispererref06_flags.l0 k x3 x4 x5 (wrap64 (x6 + 1))))) else (none)) else (none)) else (none)) else (whispererref06_flags.l0 k x3 x4 x5 (wrap64 (x6 + 1)))
end
def whispererref06_flags.f (k : Nat) (a0 : ByteArray) : Option (Int) := (PCut.whispererref06_Cut.f k a0 43).bind fun t115 => ((whispererref06_Names.f).bind fun t118 => (whispererref06_flags.l0 k 0 t115 t118 0))
theorem whispererref06_flags.mono_l : ∀ k, (∀ y0 y1 y2 y3, LeO (whispererref06_flags.l0 k y0 y1 y2 y3) (whispererref06_flags.l0 (k + 1) y0 y1 y2 y3)) ∧ (∀ y0 y1 y2 y3 y4 y5, LeO (whispererref06_flags.l1 k y0 y1 y2 y3 y4 y5) (whispererref06_flags.l1 (k + 1) y0 y1 y2 y3 y4 y5)) ∧ (∀ y0 y1 y2 y3 y4, LeO (whispererref06_flags.j2 k y0 y1 y2 y3 y4) (whispererref06_flags.j2 (k + 1) y0 y1 y2 y3 y4))
  | 0 => ⟨fun _ _ _ _ r h => by simp [whispererref06_flags.l0] at h, fun _ _ _ _ _ _ r h => by simp [whispererref06_flags.l1] at h, fun _ _ _ _ _ r h => by simp [whispererref06_flags.j2] at h⟩
  | k + 1 => by
    obtain ⟨ih0, ih1, ih2⟩ := whispererref06_flags.mono_l k
    refine ⟨?_, ?_, ?_⟩
    · intro y0 y1 y2 y3
      unfold whispererref06_flags.l0
      repeat' first
      | (with_reducible exact ih0 _ _ _ _)
      | (with_reducible exact ih1 _ _ _ _ _ _)
      | (with_reducible exact ih2 _ _ _ _ _)
      | (with_reducible exact PCut.whispererref06_Cut.mono _ _ _)
      | (with_reducible exact PNumber.whispererref06_Number.mono _ _ _ _)
      | (with_reducible exact LeO.refl _)
      | (with_reducible exact LeO.none _)
      | (with_reducible refine LeO.ite ?_ ?_)
      | (with_reducible refine LeO.bind ?_ (fun _ => ?_))
      | exact ih0 _ _ _ _
      | exact ih1 _ _ _ _ _ _
      | exact ih2 _ _ _ _ _
      | exact PCut.whispererref06_Cut.mono _ _ _
      | exact PNumber.whispererref06_Number.mono _ _ _ _
      | exact LeO.none _
      | refine LeO.ite ?_ ?_
      | refine LeO.bind ?_ (fun _ => ?_)
    · intro y0 y1 y2 y3 y4 y5
      unfold whispererref06_flags.l1
      repeat' first
      | (with_reducible exact ih0 _ _ _ _)
      | (with_reducible exact ih1 _ _ _ _ _ _)
      | (with_reducible exact ih2 _ _ _ _ _)
      | (with_reducible exact PCut.whispererref06_Cut.mono _ _ _)
      | (with_reducible exact PNumber.whispererref06_Number.mono _ _ _ _)
      | (with_reducible exact LeO.refl _)
      | (with_reducible exact LeO.none _)
      | (with_reducible refine LeO.ite ?_ ?_)
      | (with_reducible refine LeO.bind ?_ (fun _ => ?_))
      | exact ih0 _ _ _ _
      | exact ih1 _ _ _ _ _ _
      | exact ih2 _ _ _ _ _
      | exact PCut.whispererref06_Cut.mono _ _ _
      | exact PNumber.whispererref06_Number.mono _ _ _ _
      | exact LeO.none _
      | refine LeO.ite ?_ ?_
      | refine LeO.bind ?_ (fun _ => ?_)
    · intro y0 y1 y2 y3 y4
      unfold whispererref06_flags.j2
      repeat' first
      | (with_reducible exact ih0 _ _ _ _)
      | (with_reducible exact ih1 _ _ _ _ _ _)
      | (with_reducible exact ih2 _ _ _ _ _)
      | (with_reducible exact PCut.whispererref06_Cut.mono _ _ _)
      | (with_reducible exact PNumber.whispererref06_Number.mono _ _ _ _)
      | (with_reducible exact LeO.refl _)
      | (with_reducible exact LeO.none _)
      | (with_reducible refine LeO.ite ?_ ?_)
      | (with_reducible refine LeO.bind ?_ (fun _ => ?_))
      | exact ih0 _ _ _ _
      | exact ih1 _ _ _ _ _ _
      | exact ih2 _ _ _ _ _
      | exact PCut.whispererref06_Cut.mono _ _ _
      | exact PNumber.whispererref06_Number.mono _ _ _ _
      | exact LeO.none _
      | refine LeO.ite ?_ ?_
      | refine LeO.bind ?_ (fun _ => ?_)
theorem whispererref06_flags.mono : ∀ a0 k, LeO (whispererref06_flags.f k a0) (whispererref06_flags.f (k + 1) a0) := by
  intro a0 k
  obtain ⟨ih0, ih1, ih2⟩ := whispererref06_flags.mono_l k
  unfold whispererref06_flags.f
  repeat' first
      | (with_reducible exact ih0 _ _ _ _)
      | (with_reducible exact ih1 _ _ _ _ _ _)
      | (with_reducible exact ih2 _ _ _ _ _)
      | (with_reducible exact PCut.whispererref06_Cut.mono _ _ _)
      | (with_reducible exact PNumber.whispererref06_Number.mono _ _ _ _)
      | (with_reducible exact LeO.refl _)
      | (with_reducible exact LeO.none _)
      | (with_reducible refine LeO.ite ?_ ?_)
      | (with_reducible refine LeO.bind ?_ (fun _ => ?_))
      | exact ih0 _ _ _ _
      | exact ih1 _ _ _ _ _ _
      | exact ih2 _ _ _ _ _
      | exact PCut.whispererref06_Cut.mono _ _ _
      | exact PNumber.whispererref06_Number.mono _ _ _ _
      | exact LeO.none _
      | refine LeO.ite ?_ ?_
      | refine LeO.bind ?_ (fun _ => ?_)
set_option maxHeartbeats 8000000 in
set_option maxRecDepth 100000 in
theorem whispererref06_flags.calls (k : Nat) (a0 : ByteArray) (r : Int) (w : World) (h : whispererref06_flags.f k a0 = some r) :
    Calls Tryz.prog 58 #[.string a0] w fun e w' => e = .returned (.int .u32 r) ∧ Below w.heap.size w w' := by
  have HB := Aside0.mk (Below.refl w.heap.size w)
  have H : ((PCut.whispererref06_Cut.f k a0 43).bind fun t115 => ((whispererref06_Names.f).bind fun t118 => (whispererref06_flags.l0 k 0 t115 t118 0))) = some r := h
  clear h
  replace H := Option.bind_eq_some_iff.mp H
  obtain ⟨t115, A20, H⟩ := H
  replace H : ((whispererref06_Names.f).bind fun t118 => (whispererref06_flags.l0 k 0 t115 t118 0)) = some r := H
  have A2 := Aside0.mk A20
  clear A20
  replace H := Option.bind_eq_some_iff.mp H
  obtain ⟨t118, A30, H⟩ := H
  replace H : (whispererref06_flags.l0 k 0 t115 t118 0) = some r := H
  have A3 := Aside0.mk A30
  clear A30
  have H' := Aside0.mk H
  clear H
  go_enter Tryz.func58, Tryz.ntmps58
  go_wp2_with (first | (go_at_call 32; (with_reducible refine (PCut.whispererref06_Cut.calls k a0 43 t115 _ A2.out).mono ?_); rintro e w4 ⟨v116, rfl, ho0, hb⟩; have n0_ := Aside0.mk (Kd.R_lower ho0 (below_size (by repeat (first | (with_reducible first | exact HB.out | apply below_alloc | apply pw_below_drewN | apply below_drew1) | exact HB.out)))); have n1_ := Aside0.mk (below_step (by repeat (first | (with_reducible first | exact HB.out | apply below_alloc | apply pw_below_drewN | apply below_drew1) | exact HB.out)) hb); clear HB; have HO117 := n0_; have HB := n1_; clear n0_ n1_; (try clear hb); (try clear hb2); (try clear hk); (try clear hi); (try clear ho0)) | (go_at_call 55; (with_reducible refine (whispererref06_Names.calls  t118 _ A3.out).mono ?_); rintro e w5 ⟨v119, rfl, ho0, hb⟩; have n0_ := Aside0.mk (Kd.R_elder' (by (with_reducible repeat (first | apply Kd.R_alloc | apply Kd.R_drewN | apply Kd.R_drew)); exact HO117.out) (Kd.R_base ho0) hb); have n1_ := Aside0.mk (Kd.R_lower (Kd.R_new' ho0 (Kd.R_lt (by (with_reducible repeat (first | apply Kd.R_alloc | apply Kd.R_drewN | apply Kd.R_drew)); exact HO117.out))) (below_size (by repeat (first | (with_reducible first | exact HB.out | apply below_alloc | apply pw_below_drewN | apply below_drew1) | exact HB.out)))); have n2_ := Aside0.mk (below_step (by repeat (first | (with_reducible first | exact HB.out | apply below_alloc | apply pw_below_drewN | apply below_drew1) | exact HB.out)) hb); clear HO117; clear HB; have HO117 := n0_; have HO120 := n1_; have HB := n2_; clear n0_ n1_ n2_; (try clear hb); (try clear hb2); (try clear hk); (try clear hi); (try clear ho0)))
  repeat (go_quiet (first | (go_at_call 32; (with_reducible refine (PCut.whispererref06_Cut.calls k a0 43 t115 _ A2.out).mono ?_); rintro e w4 ⟨v116, rfl, ho0, hb⟩; have n0_ := Aside0.mk (Kd.R_lower ho0 (below_size (by repeat (first | (with_reducible first | exact HB.out | apply below_alloc | apply pw_below_drewN | apply below_drew1) | exact HB.out)))); have n1_ := Aside0.mk (below_step (by repeat (first | (with_reducible first | exact HB.out | apply below_alloc | apply pw_below_drewN | apply below_drew1) | exact HB.out)) hb); clear HB; have HO117 := n0_; have HB := n1_; clear n0_ n1_; (try clear hb); (try clear hb2); (try clear hk); (try clear hi); (try clear ho0)) | (go_at_call 55; (with_reducible refine (whispererref06_Names.calls  t118 _ A3.out).mono ?_); rintro e w5 ⟨v119, rfl, ho0, hb⟩; have n0_ := Aside0.mk (Kd.R_elder' (by (with_reducible repeat (first | apply Kd.R_alloc | apply Kd.R_drewN | apply Kd.R_drew)); exact HO117.out) (Kd.R_base ho0) hb); have n1_ := Aside0.mk (Kd.R_lower (Kd.R_new' ho0 (Kd.R_lt (by (with_reducible repeat (first | apply Kd.R_alloc | apply Kd.R_drewN | apply Kd.R_drew)); exact HO117.out))) (below_size (by repeat (first | (with_reducible first | exact HB.out | apply below_alloc | apply pw_below_drewN | apply below_drew1) | exact HB.out)))); have n2_ := Aside0.mk (below_step (by repeat (first | (with_reducible first | exact HB.out | apply below_alloc | apply pw_below_drewN | apply below_drew1) | exact HB.out)) hb); clear HO117; clear HB; have HO117 := n0_; have HO120 := n1_; have HB := n2_; clear n0_ n1_ n2_; (try clear hb); (try clear hb2); (try clear hk); (try clear hi); (try clear ho0))); try go_wp2_with (first | (go_at_call 32; (with_reducible refine (PCut.whispererref06_Cut.calls k a0 43 t115 _ A2.out).mono ?_); rintro e w4 ⟨v116, rfl, ho0, hb⟩; have n0_ := Aside0.mk (Kd.R_lower ho0 (below_size (by repeat (first | (with_reducible first | exact HB.out | apply below_alloc | apply pw_below_drewN | apply below_drew1) | exact HB.out)))); have n1_ := Aside0.mk (below_step (by repeat (first | (with_reducible first | exact HB.out | apply below_alloc | apply pw_below_drewN | apply below_drew1) | exact HB.out)) hb); clear HB; have HO117 := n0_; have HB := n1_; clear n0_ n1_; (try clear hb); (try clear hb2); (try clear hk); (try clear hi); (try clear ho0)) | (go_at_call 55; (with_reducible refine (whispererref06_Names.calls  t118 _ A3.out).mono ?_); rintro e w5 ⟨v119, rfl, ho0, hb⟩; have n0_ := Aside0.mk (Kd.R_elder' (by (with_reducible repeat (first | apply Kd.R_alloc | apply Kd.R_drewN | apply Kd.R_drew)); exact HO117.out) (Kd.R_base ho0) hb); have n1_ := Aside0.mk (Kd.R_lower (Kd.R_new' ho0 (Kd.R_lt (by (with_reducible repeat (first | apply Kd.R_alloc | apply Kd.R_drewN | apply Kd.R_drew)); exact HO117.out))) (below_size (by repeat (first | (with_reducible first | exact HB.out | apply below_alloc | apply pw_below_drewN | apply below_drew1) | exact HB.out)))); have n2_ := Aside0.mk (below_step (by repeat (first | (with_reducible first | exact HB.out | apply below_alloc | apply pw_below_drewN | apply below_drew1) | exact HB.out)) hb); clear HO117; clear HB; have HO117 := n0_; have HO120 := n1_; have HB := n2_; clear n0_ n1_ n2_; (try clear hb); (try clear hb2); (try clear hk); (try clear hi); (try clear ho0))))
  go_loopg [3, 6] k (fun kq v3 v6 w' => ∃ (x3_1 : Int) (x6_1 : Int), v3 = .int .u32 x3_1 ∧ v6 = .int .i64 x6_1 ∧ Aside0 (whispererref06_flags.l0 kq x3_1 t115 t118 x6_1 = some r) ∧ Aside0 (kq ≤ k) ∧ Aside0 (Kd.R Kd.string 9 w' w.heap.size (fun k_ => some k_ ≠ (v119 : Value).ownBlock) v116 t115) ∧ Aside0 (Kd.R Kd.string 9 w' w.heap.size (fun k_ => some k_ ≠ (v116 : Value).ownBlock) v119 t118) ∧ Aside0 (Below w.heap.size w w'))
  case atStart => exact ⟨(0), (0), (by first | rfl | (simp; done) | (simp [*]; done)), (by first | rfl | (simp; done) | (simp [*]; done)), H', ⟨Nat.le_refl _⟩, ⟨by (with_reducible repeat (first | apply Kd.R_alloc | apply Kd.R_drewN | apply Kd.R_drew)); exact Kd.R_mono HO117.out (fun _ hk => hk.2)⟩, ⟨by (with_reducible repeat (first | apply Kd.R_alloc | apply Kd.R_drewN | apply Kd.R_drew)); exact Kd.R_mono HO120.out (fun _ hk => hk.2)⟩, ⟨by repeat (first | (with_reducible first | exact HB.out | apply below_alloc | apply pw_below_drewN | apply below_drew1) | exact HB.out)⟩⟩
  case round =>
    clear H'
    try clear p2
    try clear c5
    obtain ⟨x3_1, x6_1, rfl, rfl, HA, HK1, HO_4, HO_5, HB⟩ := hrel
    cases gk with
    | zero => exact absurd HA.out (by simp [whispererref06_flags.l0])
    | succ k1 =>
      have H := HA.out
      clear HA
      simp only [whispererref06_flags.l0] at H
      by_cases c6 : x6_1 < (t115.length : Int)
      · rw [if_pos c6] at H
        have c6b0 : decide (x6_1 < (t115.length : Int)) = true := decide_eq_true c6
        clear c6
        have H' := Aside0.mk H
        clear H
        obtain ⟨Ao7, co7, eo7⟩ := Kd.R_slice HO_4.out
        subst eo7
        go_wp2
        repeat (go_quiet (fail); try go_wp2)
        go_loopg [3, 7, 8] k1 (fun kq v3 v7 v8 w' => ∃ (x3_2 : Int) (x7_2 : Int) (x8_2 : Int), v3 = .int .u32 x3_2 ∧ v7 = .int .u32 x7_2 ∧ v8 = .int .i64 x8_2 ∧ Aside0 (whispererref06_flags.l1 kq x3_2 t115 t118 x6_1 x7_2 x8_2 = some r) ∧ Aside0 (kq ≤ k1) ∧ Aside0 (Kd.R Kd.string 9 w' w.heap.size (fun k_ => some k_ ≠ (v119 : Value).ownBlock) (.slice Ao7 t115.length co7) t115) ∧ Aside0 (Kd.R Kd.string 9 w' w.heap.size (fun k_ => some k_ ≠ ((.slice Ao7 t115.length co7) : Value).ownBlock) v119 t118) ∧ Aside0 (Below w.heap.size w w'))
        case atStart => exact ⟨(x3_1), (1), (0), (by first | rfl | (simp; done) | (simp [*]; done)), (by first | rfl | (simp; done) | (simp [*]; done)), (by first | rfl | (simp; done) | (simp [*]; done)), H', ⟨Nat.le_refl _⟩, ⟨by (with_reducible repeat (first | apply Kd.R_alloc | apply Kd.R_drewN | apply Kd.R_drew)); exact HO_4.out⟩, ⟨by (with_reducible repeat (first | apply Kd.R_alloc | apply Kd.R_drewN | apply Kd.R_drew)); exact HO_5.out⟩, ⟨by repeat (first | (with_reducible first | exact HB.out | apply below_alloc | apply pw_below_drewN | apply below_drew1) | exact HB.out)⟩⟩
        case round =>
          clear H'
          try clear p2
          try clear c5
          try clear c6
          try clear c6b0
          try clear p2
          obtain ⟨x3_2, x7_2, x8_2, rfl, rfl, rfl, HA, HK2, HO_4, HO_5, HB⟩ := hrel
          cases gk with
          | zero => exact absurd HA.out (by simp [whispererref06_flags.l1])
          | succ k2 =>
            have H := HA.out
            clear HA
            simp only [whispererref06_flags.l1] at H
            by_cases c8 : x8_2 < (t118.length : Int)
            · rw [if_pos c8] at H
              have c8b0 : decide (x8_2 < (t118.length : Int)) = true := decide_eq_true c8
              clear c8
              by_cases c9 : 0 ≤ x6_1
              · rw [if_pos c9] at H
                have c9b0 : decide (0 ≤ x6_1) = true := decide_eq_true c9
                clear c9
                by_cases c10 : x6_1 < (t115.length : Int)
                · rw [if_pos c10] at H
                  have c10b0 : decide (x6_1 < (t115.length : Int)) = true := decide_eq_true c10
                  clear c10
                  by_cases c11 : 0 ≤ x8_2
                  · rw [if_pos c11] at H
                    have c11b0 : decide (0 ≤ x8_2) = true := decide_eq_true c11
                    clear c11
                    by_cases c12 : (rdOf ByteArray.empty t115 x6_1).toList = (rdOf ByteArray.empty t118 x8_2).toList
                    · rw [if_pos c12] at H
                      have c12b0 : ((rdOf ByteArray.empty t115 x6_1).toList == (rdOf ByteArray.empty t118 x8_2).toList) = true := beq_iff_eq.mpr c12
                      have c12b1 : ((rdOf ByteArray.empty t115 x6_1).toList != (rdOf ByteArray.empty t118 x8_2).toList) = false := bne_eq_false_iff_eq.mpr c12
                      clear c12
                      have H' := Aside0.mk H
                      clear H
                      obtain ⟨Ao13, co13, eo13⟩ := Kd.R_slice HO_5.out
                      subst eo13
                      have p121 : 0 ≤ (x6_1 : Int) := of_decide_eq_true (by first | (with_reducible assumption) | assumption)
                      have q121 : x6_1 < (t115.length : Int) := of_decide_eq_true (by first | (with_reducible assumption) | assumption)
                      obtain ⟨ad121, e121, hx121_0⟩ := Kd.at_string (Kd.R_reads' HO_4.out).2.2 x6_1 p121 q121
                      cases e121
                      replace p121 := eq_true p121
                      replace q121 := eq_true q121
                      have p122 : 0 ≤ (x8_2 : Int) := of_decide_eq_true (by first | (with_reducible assumption) | assumption)
                      have q122 : x8_2 < (t118.length : Int) := of_decide_eq_true (by first | (with_reducible assumption) | assumption)
                      obtain ⟨ad122, e122, hx122_0⟩ := Kd.at_string (Kd.R_reads' HO_5.out).2.2 x8_2 p122 q122
                      cases e122
                      replace p122 := eq_true p122
                      replace q122 := eq_true q122
                      go_wp2
                      repeat (go_quiet (fail); try go_wp2)
                      go_roundg k2
                      case measure => have := HK1.out; have := HK2.out; omega
                      case rel => exact ⟨((x3_2 + x7_2) % 4294967296), ((x7_2 * 2) % 4294967296), (wrap64 (x8_2 + 1)), (by first | rfl | (simp; done) | (simp [*]; done)), (by first | rfl | (simp; done) | (simp [*]; done)), (by first | rfl | (simp; done) | (simp [*]; done)), H', ⟨by have := HK1.out; have := HK2.out; omega⟩, ⟨by (with_reducible repeat (first | apply Kd.R_alloc | apply Kd.R_drewN | apply Kd.R_drew)); exact HO_4.out⟩, ⟨by (with_reducible repeat (first | apply Kd.R_alloc | apply Kd.R_drewN | apply Kd.R_drew)); exact HO_5.out⟩, ⟨by repeat (first | (with_reducible first | exact HB.out | apply below_alloc | apply pw_below_drewN | apply below_drew1) | exact HB.out)⟩⟩
                    · rw [if_neg c12] at H
                      have c12b0 : ((rdOf ByteArray.empty t115 x6_1).toList == (rdOf ByteArray.empty t118 x8_2).toList) = false := beq_eq_false_iff_ne.mpr c12
                      have c12b1 : ((rdOf ByteArray.empty t115 x6_1).toList != (rdOf ByteArray.empty t118 x8_2).toList) = true := bne_iff_ne.mpr c12
                      have H' := Aside0.mk H
                      clear H
                      obtain ⟨Ao14, co14, eo14⟩ := Kd.R_slice HO_5.out
                      subst eo14
                      have p121 : 0 ≤ (x6_1 : Int) := of_decide_eq_true (by first | (with_reducible assumption) | assumption)
                      have q121 : x6_1 < (t115.length : Int) := of_decide_eq_true (by first | (with_reducible assumption) | assumption)
                      obtain ⟨ad121, e121, hx121_0⟩ := Kd.at_string (Kd.R_reads' HO_4.out).2.2 x6_1 p121 q121
                      cases e121
                      replace p121 := eq_true p121
                      replace q121 := eq_true q121
                      have p122 : 0 ≤ (x8_2 : Int) := of_decide_eq_true (by first | (with_reducible assumption) | assumption)
                      have q122 : x8_2 < (t118.length : Int) := of_decide_eq_true (by first | (with_reducible assumption) | assumption)
                      obtain ⟨ad122, e122, hx122_0⟩ := Kd.at_string (Kd.R_reads' HO_5.out).2.2 x8_2 p122 q122
                      cases e122
                      replace p122 := eq_true p122
                      replace q122 := eq_true q122
                      go_wp2
                      repeat (go_quiet (fail); try go_wp2)
                      go_roundg k2
                      case measure => have := HK1.out; have := HK2.out; omega
                      case rel => exact ⟨(x3_2), ((x7_2 * 2) % 4294967296), (wrap64 (x8_2 + 1)), (by first | rfl | (simp; done) | (simp [*]; done)), (by first | rfl | (simp; done) | (simp [*]; done)), (by first | rfl | (simp; done) | (simp [*]; done)), H', ⟨by have := HK1.out; have := HK2.out; omega⟩, ⟨by (with_reducible repeat (first | apply Kd.R_alloc | apply Kd.R_drewN | apply Kd.R_drew)); exact HO_4.out⟩, ⟨by (with_reducible repeat (first | apply Kd.R_alloc | apply Kd.R_drewN | apply Kd.R_drew)); exact HO_5.out⟩, ⟨by repeat (first | (with_reducible first | exact HB.out | apply below_alloc | apply pw_below_drewN | apply below_drew1) | exact HB.out)⟩⟩
                  · rw [if_neg c11] at H
                    exact absurd H (by simp)
                · rw [if_neg c10] at H
                  exact absurd H (by simp)
              · rw [if_neg c9] at H
                exact absurd H (by simp)
            · rw [if_neg c8] at H
              have c8b0 : decide (x8_2 < (t118.length : Int)) = false := decide_eq_false c8
              clear c8
              have HC15 := Aside0.mk H
              clear H
              obtain ⟨Ao16, co16, eo16⟩ := Kd.R_slice HO_5.out
              subst eo16
              go_upto_region 14 with (fail)
              repeat (go_quiet (fail); go_upto_region 14 with (fail))
              go_cut [52] (fun v52 wc => ∃ (kq : Nat) (x52_14 : Bool), v52 = .bool x52_14 ∧ Aside0 (whispererref06_flags.j2 kq x3_2 t115 t118 x6_1 x52_14 = some r) ∧ Aside0 (kq ≤ k2) ∧ Aside0 (Kd.R Kd.string 9 wc w.heap.size (fun k_ => some k_ ≠ ((.slice Ao16 t118.length co16) : Value).ownBlock) (.slice Ao7 t115.length co7) t115) ∧ Aside0 (Kd.R Kd.string 9 wc w.heap.size (fun k_ => some k_ ≠ ((.slice Ao7 t115.length co7) : Value).ownBlock) (.slice Ao16 t118.length co16) t118) ∧ Aside0 (Below w.heap.size w wc))
              case first =>
                have H := HC15.out
                clear HC15
                by_cases c17 : 0 ≤ x6_1
                · rw [if_pos c17] at H
                  have c17b0 : decide (0 ≤ x6_1) = true := decide_eq_true c17
                  clear c17
                  (first | rw [c17b0] | (simp only [i64_w, i32_w]; rw [c17b0]) | skip)
                  by_cases c18 : x6_1 < (t115.length : Int)
                  · rw [if_pos c18] at H
                    have c18b0 : decide (x6_1 < (t115.length : Int)) = true := decide_eq_true c18
                    clear c18
                    by_cases c19 : ((rdOf ByteArray.empty t115 x6_1).size : Int) > 1
                    · rw [if_pos c19] at H
                      have c19b0 : decide (1 < ((rdOf ByteArray.empty t115 x6_1).size : Int)) = true := decide_eq_true c19
                      have c19b1 : decide (1 < (rdOf ByteArray.empty t115 x6_1).size) = true := decide_eq_true (by omega)
                      clear c19
                      by_cases c20 : 0 < ((rdOf ByteArray.empty t115 x6_1).size : Int)
                      · rw [if_pos c20] at H
                        have c20b0 : decide (0 < ((rdOf ByteArray.empty t115 x6_1).size : Int)) = true := decide_eq_true c20
                        have c20b1 : decide (0 < (rdOf ByteArray.empty t115 x6_1).size) = true := decide_eq_true (by omega)
                        clear c20
                        have H' := Aside0.mk H
                        clear H
                        have p123 : 0 ≤ (x6_1 : Int) := of_decide_eq_true (by first | (with_reducible assumption) | assumption)
                        have q123 : x6_1 < (t115.length : Int) := of_decide_eq_true (by first | (with_reducible assumption) | assumption)
                        obtain ⟨ad123, e123, hx123_0⟩ := Kd.at_string (Kd.R_reads' HO_4.out).2.2 x6_1 p123 q123
                        cases e123
                        replace p123 := eq_true p123
                        replace q123 := eq_true q123
                        have p124 : 0 ≤ (x6_1 : Int) := of_decide_eq_true (by first | (with_reducible assumption) | assumption)
                        have q124 : x6_1 < (t115.length : Int) := of_decide_eq_true (by first | (with_reducible assumption) | assumption)
                        obtain ⟨ad124, e124, hx124_0⟩ := Kd.at_string (Kd.R_reads' HO_4.out).2.2 x6_1 p124 q124
                        obtain rfl : ad123 = ad124 := (by injection e124)
                        replace p124 := eq_true p124
                        replace q124 := eq_true q124
                        have p21 : 0 ≤ (0 : Int) := (by omega)
                        have q21 : 0 < (rdOf ByteArray.empty t115 x6_1).size := (by have : (0 : Int) < ((rdOf ByteArray.empty t115 x6_1).size : Int) := of_decide_eq_true (by first | (with_reducible assumption) | assumption); omega)
                        have hx21 : ∀ h : 0 < (rdOf ByteArray.empty t115 x6_1).size, (((rdOf ByteArray.empty t115 x6_1)[0]'h).toNat : Int) = bt (rdOf ByteArray.empty t115 x6_1) 0 := bt_at (rdOf ByteArray.empty t115 x6_1) 0
                        clear p21
                        have qi21 : (0 < ((rdOf ByteArray.empty t115 x6_1).size : Int)) = True := eq_true (of_decide_eq_true (by first | (with_reducible assumption) | assumption))
                        replace q21 := eq_true q21
                        go_wp2
                        repeat (go_quiet (fail); try go_wp2)
                        go_meet
                        case rel => exact ⟨_, (((bt (rdOf ByteArray.empty t115 x6_1) 0) == 120)), (by first | rfl | (simp; done) | (simp [*]; done)), H', ⟨by have := HK1.out; have := HK2.out; first | omega | exact Nat.le_refl _⟩, ⟨by (with_reducible repeat (first | apply Kd.R_alloc | apply Kd.R_drewN | apply Kd.R_drew)); exact HO_4.out⟩, ⟨by (with_reducible repeat (first | apply Kd.R_alloc | apply Kd.R_drewN | apply Kd.R_drew)); exact HO_5.out⟩, ⟨by repeat (first | (with_reducible first | exact HB.out | apply below_alloc | apply pw_below_drewN | apply below_drew1) | exact HB.out)⟩⟩
                      · rw [if_neg c20] at H
                        exact absurd H (by simp)
                    · rw [if_neg c19] at H
                      have c19b0 : decide (1 < ((rdOf ByteArray.empty t115 x6_1).size : Int)) = false := decide_eq_false c19
                      have c19b1 : decide (1 < (rdOf ByteArray.empty t115 x6_1).size) = false := decide_eq_false (by omega)
                      clear c19
                      have H' := Aside0.mk H
                      clear H
                      have p123 : 0 ≤ (x6_1 : Int) := of_decide_eq_true (by first | (with_reducible assumption) | assumption)
                      have q123 : x6_1 < (t115.length : Int) := of_decide_eq_true (by first | (with_reducible assumption) | assumption)
                      obtain ⟨ad123, e123, hx123_0⟩ := Kd.at_string (Kd.R_reads' HO_4.out).2.2 x6_1 p123 q123
                      cases e123
                      replace p123 := eq_true p123
                      replace q123 := eq_true q123
                      go_wp2
                      repeat (go_quiet (fail); try go_wp2)
                      go_meet
                      case rel => exact ⟨_, (false), (by first | rfl | (simp; done) | (simp [*]; done)), H', ⟨by have := HK1.out; have := HK2.out; first | omega | exact Nat.le_refl _⟩, ⟨by (with_reducible repeat (first | apply Kd.R_alloc | apply Kd.R_drewN | apply Kd.R_drew)); exact HO_4.out⟩, ⟨by (with_reducible repeat (first | apply Kd.R_alloc | apply Kd.R_drewN | apply Kd.R_drew)); exact HO_5.out⟩, ⟨by repeat (first | (with_reducible first | exact HB.out | apply below_alloc | apply pw_below_drewN | apply below_drew1) | exact HB.out)⟩⟩
                  · rw [if_neg c18] at H
                    exact absurd H (by simp)
                · rw [if_neg c17] at H
                  exact absurd H (by simp)
              case rest =>
                clear HC15
                try clear c1
                try clear p1
                try clear q1
                try clear hx1
                try clear c2
                try clear p2
                try clear q2
                try clear hx2
                try clear qi2
                try clear c5
                try clear c6
                try clear c6b0
                try clear p6
                try clear c8
                try clear c8b0
                try clear c9
                try clear c9b0
                try clear c10
                try clear c10b0
                try clear c11
                try clear c11b0
                try clear c12
                try clear c12b0
                try clear c12b1
                try clear p12
                try clear q12
                try clear hx12
                try clear c17
                try clear c17b0
                try clear c18
                try clear c18b0
                try clear c19
                try clear c19b0
                try clear c19b1
                try clear c20
                try clear c20b0
                try clear c20b1
                try clear p21
                try clear q21
                try clear hx21
                try clear qi21
                try clear hx121_0
                try clear hx122_0
                try clear hx123_0
                try clear hx124_0
                try clear p121
                try clear p122
                try clear p123
                try clear p124
                try clear p2
                try clear p21
                try clear q121
                try clear q122
                try clear q123
                try clear q124
                try clear q21
                obtain ⟨kq, x52_14, rfl, HA, HJ14, HO_4, HO_5, HB⟩ := hcut
                cases kq with
                | zero => exact absurd HA.out (by simp [whispererref06_flags.j2])
                | succ kj14 =>
                  have H := HA.out
                  clear HA
                  simp only [whispererref06_flags.j2] at H
                  by_cases c22 : x52_14 = true
                  · subst c22
                    have H1 : (if 0 ≤ x6_1 then (if x6_1 < (t115.length : Int) then (if 1 ≤ ((rdOf ByteArray.empty t115 x6_1).size : Int) then ((PNumber.whispererref06_Number.f kj14 ((rdOf ByteArray.empty t115 x6_1).extract 1 (rdOf ByteArray.empty t115 x6_1).size) 16 8).bind fun t126 => (if t126 > 0 then (whispererref06_flags.l0 kj14 ((x3_2 + ((t126) % 4294967296)) % 4294967296) t115 t118 (wrap64 (x6_1 + 1))) else (whispererref06_flags.l0 kj14 x3_2 t115 t118 (wrap64 (x6_1 + 1))))) else (none)) else (none)) else (none)) = some r := by rw [if_pos rfl] at H; exact H
                    clear H
                    have H := H1
                    clear H1
                    by_cases c23 : 0 ≤ x6_1
                    · rw [if_pos c23] at H
                      have c23b0 : decide (0 ≤ x6_1) = true := decide_eq_true c23
                      clear c23
                      by_cases c24 : x6_1 < (t115.length : Int)
                      · rw [if_pos c24] at H
                        have c24b0 : decide (x6_1 < (t115.length : Int)) = true := decide_eq_true c24
                        clear c24
                        by_cases c25 : 1 ≤ ((rdOf ByteArray.empty t115 x6_1).size : Int)
                        · rw [if_pos c25] at H
                          have c25b0 := eq_true c25
                          have c25b1 : decide (1 ≤ ((rdOf ByteArray.empty t115 x6_1).size : Int)) = true := decide_eq_true c25
                          clear c25
                          replace H := Option.bind_eq_some_iff.mp H
                          obtain ⟨t126, A260, H⟩ := H
                          replace H : (if t126 > 0 then (whispererref06_flags.l0 kj14 ((x3_2 + ((t126) % 4294967296)) % 4294967296) t115 t118 (wrap64 (x6_1 + 1))) else (whispererref06_flags.l0 kj14 x3_2 t115 t118 (wrap64 (x6_1 + 1)))) = some r := H
                          have A26 := Aside0.mk A260
                          clear A260
                          by_cases c27 : t126 > 0
                          · rw [if_pos c27] at H
                            have c27b0 : decide (0 < t126) = true := decide_eq_true c27
                            clear c27
                            have H' := Aside0.mk H
                            clear H
                            have p125 : 0 ≤ (x6_1 : Int) := of_decide_eq_true (by first | (with_reducible assumption) | assumption)
                            have q125 : x6_1 < (t115.length : Int) := of_decide_eq_true (by first | (with_reducible assumption) | assumption)
                            obtain ⟨ad125, e125, hx125_0⟩ := Kd.at_string (Kd.R_reads' HO_4.out).2.2 x6_1 p125 q125
                            cases e125
                            replace p125 := eq_true p125
                            replace q125 := eq_true q125
                            go_wp2_with (first | (go_at_call 33; (with_reducible refine (PNumber.whispererref06_Number.calls kj14 ((rdOf ByteArray.empty t115 x6_1).extract 1 (rdOf ByteArray.empty t115 x6_1).size) 16 8 t126 _ A26.out).mono ?_); rintro e w' ⟨rfl, ⟨nd, rfl⟩⟩; (try first | exact ⟨rfl, _, World.drewN_drewN _ _ _⟩ | exact ⟨rfl, _, Eq.trans (World.drewN_drewN _ _ _) (congrArg (World.drewN _) (Nat.add_assoc _ _ _))⟩)))
                            repeat (go_quiet (first | (go_at_call 33; (with_reducible refine (PNumber.whispererref06_Number.calls kj14 ((rdOf ByteArray.empty t115 x6_1).extract 1 (rdOf ByteArray.empty t115 x6_1).size) 16 8 t126 _ A26.out).mono ?_); rintro e w' ⟨rfl, ⟨nd, rfl⟩⟩; (try first | exact ⟨rfl, _, World.drewN_drewN _ _ _⟩ | exact ⟨rfl, _, Eq.trans (World.drewN_drewN _ _ _) (congrArg (World.drewN _) (Nat.add_assoc _ _ _))⟩))); try go_wp2_with (first | (go_at_call 33; (with_reducible refine (PNumber.whispererref06_Number.calls kj14 ((rdOf ByteArray.empty t115 x6_1).extract 1 (rdOf ByteArray.empty t115 x6_1).size) 16 8 t126 _ A26.out).mono ?_); rintro e w' ⟨rfl, ⟨nd, rfl⟩⟩; (try first | exact ⟨rfl, _, World.drewN_drewN _ _ _⟩ | exact ⟨rfl, _, Eq.trans (World.drewN_drewN _ _ _) (congrArg (World.drewN _) (Nat.add_assoc _ _ _))⟩))))
                            go_roundg kj14
                            case measure => have := HK1.out; have := HK2.out; have := HJ14.out; omega
                            case rel => exact ⟨((x3_2 + ((t126) % 4294967296)) % 4294967296), (wrap64 (x6_1 + 1)), (by first | rfl | (simp; done) | (simp [*]; done)), (by first | rfl | (simp; done) | (simp [*]; done)), H', ⟨by have := HK1.out; have := HK2.out; have := HJ14.out; omega⟩, ⟨by (with_reducible repeat (first | apply Kd.R_alloc | apply Kd.R_drewN | apply Kd.R_drew)); exact HO_4.out⟩, ⟨by (with_reducible repeat (first | apply Kd.R_alloc | apply Kd.R_drewN | apply Kd.R_drew)); exact HO_5.out⟩, ⟨by repeat (first | (with_reducible first | exact HB.out | apply below_alloc | apply pw_below_drewN | apply below_drew1) | exact HB.out)⟩⟩
                          · rw [if_neg c27] at H
                            have c27b0 : decide (0 < t126) = false := decide_eq_false c27
                            clear c27
                            have H' := Aside0.mk H
                            clear H
                            have p125 : 0 ≤ (x6_1 : Int) := of_decide_eq_true (by first | (with_reducible assumption) | assumption)
                            have q125 : x6_1 < (t115.length : Int) := of_decide_eq_true (by first | (with_reducible assumption) | assumption)
                            obtain ⟨ad125, e125, hx125_0⟩ := Kd.at_string (Kd.R_reads' HO_4.out).2.2 x6_1 p125 q125
                            cases e125
                            replace p125 := eq_true p125
                            replace q125 := eq_true q125
                            go_wp2_with (first | (go_at_call 33; (with_reducible refine (PNumber.whispererref06_Number.calls kj14 ((rdOf ByteArray.empty t115 x6_1).extract 1 (rdOf ByteArray.empty t115 x6_1).size) 16 8 t126 _ A26.out).mono ?_); rintro e w' ⟨rfl, ⟨nd, rfl⟩⟩; (try first | exact ⟨rfl, _, World.drewN_drewN _ _ _⟩ | exact ⟨rfl, _, Eq.trans (World.drewN_drewN _ _ _) (congrArg (World.drewN _) (Nat.add_assoc _ _ _))⟩)))
                            repeat (go_quiet (first | (go_at_call 33; (with_reducible refine (PNumber.whispererref06_Number.calls kj14 ((rdOf ByteArray.empty t115 x6_1).extract 1 (rdOf ByteArray.empty t115 x6_1).size) 16 8 t126 _ A26.out).mono ?_); rintro e w' ⟨rfl, ⟨nd, rfl⟩⟩; (try first | exact ⟨rfl, _, World.drewN_drewN _ _ _⟩ | exact ⟨rfl, _, Eq.trans (World.drewN_drewN _ _ _) (congrArg (World.drewN _) (Nat.add_assoc _ _ _))⟩))); try go_wp2_with (first | (go_at_call 33; (with_reducible refine (PNumber.whispererref06_Number.calls kj14 ((rdOf ByteArray.empty t115 x6_1).extract 1 (rdOf ByteArray.empty t115 x6_1).size) 16 8 t126 _ A26.out).mono ?_); rintro e w' ⟨rfl, ⟨nd, rfl⟩⟩; (try first | exact ⟨rfl, _, World.drewN_drewN _ _ _⟩ | exact ⟨rfl, _, Eq.trans (World.drewN_drewN _ _ _) (congrArg (World.drewN _) (Nat.add_assoc _ _ _))⟩))))
                            go_roundg kj14
                            case measure => have := HK1.out; have := HK2.out; have := HJ14.out; omega
                            case rel => exact ⟨(x3_2), (wrap64 (x6_1 + 1)), (by first | rfl | (simp; done) | (simp [*]; done)), (by first | rfl | (simp; done) | (simp [*]; done)), H', ⟨by have := HK1.out; have := HK2.out; have := HJ14.out; omega⟩, ⟨by (with_reducible repeat (first | apply Kd.R_alloc | apply Kd.R_drewN | apply Kd.R_drew)); exact HO_4.out⟩, ⟨by (with_reducible repeat (first | apply Kd.R_alloc | apply Kd.R_drewN | apply Kd.R_drew)); exact HO_5.out⟩, ⟨by repeat (first | (with_reducible first | exact HB.out | apply below_alloc | apply pw_below_drewN | apply below_drew1) | exact HB.out)⟩⟩
                        · rw [if_neg c25] at H
                          exact absurd H (by simp)
                      · rw [if_neg c24] at H
                        exact absurd H (by simp)
                    · rw [if_neg c23] at H
                      exact absurd H (by simp)
                  · replace c22 := Bool.eq_false_iff.mpr c22
                    subst c22
                    have H1 : (whispererref06_flags.l0 kj14 x3_2 t115 t118 (wrap64 (x6_1 + 1))) = some r := by rw [if_neg (show ¬ (false = true) by decide)] at H; exact H
                    clear H
                    have H := H1
                    clear H1
                    have H' := Aside0.mk H
                    clear H
                    go_wp2
                    repeat (go_quiet (fail); try go_wp2)
                    go_roundg kj14
                    case measure => have := HK1.out; have := HK2.out; have := HJ14.out; omega
                    case rel => exact ⟨(x3_2), (wrap64 (x6_1 + 1)), (by first | rfl | (simp; done) | (simp [*]; done)), (by first | rfl | (simp; done) | (simp [*]; done)), H', ⟨by have := HK1.out; have := HK2.out; have := HJ14.out; omega⟩, ⟨by (with_reducible repeat (first | apply Kd.R_alloc | apply Kd.R_drewN | apply Kd.R_drew)); exact HO_4.out⟩, ⟨by (with_reducible repeat (first | apply Kd.R_alloc | apply Kd.R_drewN | apply Kd.R_drew)); exact HO_5.out⟩, ⟨by repeat (first | (with_reducible first | exact HB.out | apply below_alloc | apply pw_below_drewN | apply below_drew1) | exact HB.out)⟩⟩
      · rw [if_neg c6] at H
        have c6b0 : decide (x6_1 < (t115.length : Int)) = false := decide_eq_false c6
        clear c6
        obtain rfl := Option.some.inj H
        obtain ⟨Ao28, co28, eo28⟩ := Kd.R_slice HO_4.out
        subst eo28
        go_wp2
        repeat (go_quiet (fail); try go_wp2)
        go_ret
        exact ⟨by first | rfl | (simp [errW_none, errW_some] <;> rfl) | (simp [*, errW_none, errW_some] <;> rfl), by repeat (first | (with_reducible first | exact HB.out | apply below_alloc | apply pw_below_drewN | apply below_drew1) | exact HB.out)⟩

/-! ### whispererref06_Read: function 34 -/
def whispererref06_Read.j0 : Nat → ByteArray → List ByteArray → Int → Int → Bool → Option (Int × Int × Int × Int)
  | 0, _, _, _, _, _ => none
  | k + 1, x0, x4, x5, x6, x35 => if x35 = true then (some (0, 0, 0, 8)) else (if 0 < (x4.length : Int) then ((whispererref06_flags.f k (rdOf ByteArray.empty x4 0)).bind fun t136 => ((whispererref06_Text.f k t136 ((x5) % 256) ((x6) % 256)).bind fun t138 => (if t138.toList = x0.toList then (some (t136, (x5) % 256, (x6) % 256, 0)) else (some (0, 0, 0, 8))))) else (none))
def whispererref06_Read.f (k : Nat) (a0 : ByteArray) : Option (Int × Int × Int × Int) := (PCut.whispererref06_Cut.f k a0 32).bind fun t128 => (if (t128.length : Int) = 3 then (if 1 < (t128.length : Int) then ((PNumber.whispererref06_Number.f k (rdOf ByteArray.empty t128 1) 10 3).bind fun t132 => (if 2 < (t128.length : Int) then ((PNumber.whispererref06_Number.f k (rdOf ByteArray.empty t128 2) 10 3).bind fun t134 => (if t132 < 0 then (whispererref06_Read.j0 k a0 t128 t132 t134 true) else (if t132 > 255 then (whispererref06_Read.j0 k a0 t128 t132 t134 true) else (if t134 < 0 then (whispererref06_Read.j0 k a0 t128 t132 t134 true) else (whispererref06_Read.j0 k a0 t128 t132 t134 (decide (t134 > 255))))))) else (none))) else (none)) else (some (0, 0, 0, 8)))
theorem whispererref06_Read.mono_l : ∀ k, (∀ y0 y1 y2 y3 y4, LeO (whispererref06_Read.j0 k y0 y1 y2 y3 y4) (whispererref06_Read.j0 (k + 1) y0 y1 y2 y3 y4))
  | 0 => fun _ _ _ _ _ r h => by simp [whispererref06_Read.j0] at h
  | k + 1 => by
    have ih0 := whispererref06_Read.mono_l k
    · intro y0 y1 y2 y3 y4
      unfold whispererref06_Read.j0
      repeat' first
      | (with_reducible exact ih0 _ _ _ _ _)
      | (with_reducible exact PCut.whispererref06_Cut.mono _ _ _)
      | (with_reducible exact PNumber.whispererref06_Number.mono _ _ _ _)
      | (with_reducible exact whispererref06_Text.mono _ _ _ _)
      | (with_reducible exact whispererref06_flags.mono _ _)
      | (with_reducible exact LeO.refl _)
      | (with_reducible exact LeO.none _)
      | (with_reducible refine LeO.ite ?_ ?_)
      | (with_reducible refine LeO.bind ?_ (fun _ => ?_))
      | exact ih0 _ _ _ _ _
      | exact PCut.whispererref06_Cut.mono _ _ _
      | exact PNumber.whispererref06_Number.mono _ _ _ _
      | exact whispererref06_Text.mono _ _ _ _
      | exact whispererref06_flags.mono _ _
      | exact LeO.none _
      | refine LeO.ite ?_ ?_
      | refine LeO.bind ?_ (fun _ => ?_)
theorem whispererref06_Read.mono : ∀ a0 k, LeO (whispererref06_Read.f k a0) (whispererref06_Read.f (k + 1) a0) := by
  intro a0 k
  have ih0 := whispererref06_Read.mono_l k
  unfold whispererref06_Read.f
  repeat' first
      | (with_reducible exact ih0 _ _ _ _ _)
      | (with_reducible exact PCut.whispererref06_Cut.mono _ _ _)
      | (with_reducible exact PNumber.whispererref06_Number.mono _ _ _ _)
      | (with_reducible exact whispererref06_Text.mono _ _ _ _)
      | (with_reducible exact whispererref06_flags.mono _ _)
      | (with_reducible exact LeO.refl _)
      | (with_reducible exact LeO.none _)
      | (with_reducible refine LeO.ite ?_ ?_)
      | (with_reducible refine LeO.bind ?_ (fun _ => ?_))
      | exact ih0 _ _ _ _ _
      | exact PCut.whispererref06_Cut.mono _ _ _
      | exact PNumber.whispererref06_Number.mono _ _ _ _
      | exact whispererref06_Text.mono _ _ _ _
      | exact whispererref06_flags.mono _ _
      | exact LeO.none _
      | refine LeO.ite ?_ ?_
      | refine LeO.bind ?_ (fun _ => ?_)
set_option maxHeartbeats 8000000 in
set_option maxRecDepth 100000 in
theorem whispererref06_Read.calls (k : Nat) (a0 : ByteArray) (r1 : Int) (r2 : Int) (r3 : Int) (r4 : Int) (w : World) (h : whispererref06_Read.f k a0 = some (r1, r2, r3, r4)) :
    Calls Tryz.prog 34 #[.string a0] w fun e w' => e = .returned (.tuple #[.agg #[.int .u32 r1, .int .u8 r2, .int .u8 r3], .int .i64 r4]) ∧ Below w.heap.size w w' := by
  have hu25 := Tryz.underlying25
  have HB := Aside0.mk (Below.refl w.heap.size w)
  have H : ((PCut.whispererref06_Cut.f k a0 32).bind fun t128 => (if (t128.length : Int) = 3 then (if 1 < (t128.length : Int) then ((PNumber.whispererref06_Number.f k (rdOf ByteArray.empty t128 1) 10 3).bind fun t132 => (if 2 < (t128.length : Int) then ((PNumber.whispererref06_Number.f k (rdOf ByteArray.empty t128 2) 10 3).bind fun t134 => (if t132 < 0 then (whispererref06_Read.j0 k a0 t128 t132 t134 true) else (if t132 > 255 then (whispererref06_Read.j0 k a0 t128 t132 t134 true) else (if t134 < 0 then (whispererref06_Read.j0 k a0 t128 t132 t134 true) else (whispererref06_Read.j0 k a0 t128 t132 t134 (decide (t134 > 255))))))) else (none))) else (none)) else (some (0, 0, 0, 8)))) = some (r1, r2, r3, r4) := h
  clear h
  replace H := Option.bind_eq_some_iff.mp H
  obtain ⟨t128, A20, H⟩ := H
  replace H : (if (t128.length : Int) = 3 then (if 1 < (t128.length : Int) then ((PNumber.whispererref06_Number.f k (rdOf ByteArray.empty t128 1) 10 3).bind fun t132 => (if 2 < (t128.length : Int) then ((PNumber.whispererref06_Number.f k (rdOf ByteArray.empty t128 2) 10 3).bind fun t134 => (if t132 < 0 then (whispererref06_Read.j0 k a0 t128 t132 t134 true) else (if t132 > 255 then (whispererref06_Read.j0 k a0 t128 t132 t134 true) else (if t134 < 0 then (whispererref06_Read.j0 k a0 t128 t132 t134 true) else (whispererref06_Read.j0 k a0 t128 t132 t134 (decide (t134 > 255))))))) else (none))) else (none)) else (some (0, 0, 0, 8))) = some (r1, r2, r3, r4) := H
  have A2 := Aside0.mk A20
  clear A20
  by_cases c3 : (t128.length : Int) = 3
  · rw [if_pos c3] at H
    have c3b0 : ((t128.length : Int) == 3) = true := beq_iff_eq.mpr c3
    have c3b1 : ((t128.length : Int) != 3) = false := bne_eq_false_iff_eq.mpr c3
    clear c3
    by_cases c4 : 1 < (t128.length : Int)
    · rw [if_pos c4] at H
      have c4b0 : decide (1 < (t128.length : Int)) = true := decide_eq_true c4
      have c4b1 : decide (1 < t128.length) = true := decide_eq_true (by omega)
      clear c4
      replace H := Option.bind_eq_some_iff.mp H
      obtain ⟨t132, A50, H⟩ := H
      replace H : (if 2 < (t128.length : Int) then ((PNumber.whispererref06_Number.f k (rdOf ByteArray.empty t128 2) 10 3).bind fun t134 => (if t132 < 0 then (whispererref06_Read.j0 k a0 t128 t132 t134 true) else (if t132 > 255 then (whispererref06_Read.j0 k a0 t128 t132 t134 true) else (if t134 < 0 then (whispererref06_Read.j0 k a0 t128 t132 t134 true) else (whispererref06_Read.j0 k a0 t128 t132 t134 (decide (t134 > 255))))))) else (none)) = some (r1, r2, r3, r4) := H
      have A5 := Aside0.mk A50
      clear A50
      by_cases c6 : 2 < (t128.length : Int)
      · rw [if_pos c6] at H
        have c6b0 : decide (2 < (t128.length : Int)) = true := decide_eq_true c6
        have c6b1 : decide (2 < t128.length) = true := decide_eq_true (by omega)
        clear c6
        replace H := Option.bind_eq_some_iff.mp H
        obtain ⟨t134, A70, H⟩ := H
        replace H : (if t132 < 0 then (whispererref06_Read.j0 k a0 t128 t132 t134 true) else (if t132 > 255 then (whispererref06_Read.j0 k a0 t128 t132 t134 true) else (if t134 < 0 then (whispererref06_Read.j0 k a0 t128 t132 t134 true) else (whispererref06_Read.j0 k a0 t128 t132 t134 (decide (t134 > 255)))))) = some (r1, r2, r3, r4) := H
        have A7 := Aside0.mk A70
        clear A70
        have HC8 := Aside0.mk H
        clear H
        go_enter Tryz.func34, Tryz.ntmps34
        go_upto_region 6 with (first | ((with_reducible refine gate_dst (N := 2) rfl ?_); refine box_event ?hg (N := 2) ?hd (cs := #[.int .u32 0, .int .u8 0, .int .u8 0]) (t := 25) ?hr ?_; (case hd => rfl); (case hg => rfl); (case hr => first | (go_simp; done) | (go_simp; rfl)); intro gb127 hg w9 hbox hb; have n0_ := Aside0.mk (below_step (by repeat (first | (with_reducible first | exact HB.out | apply below_alloc | apply pw_below_drewN | apply below_drew1) | exact HB.out)) hb); have n1_ := Aside0.mk (hbox); have n2_ := Aside0.mk ((by rw [hg]; exact (below_size (by repeat (first | (with_reducible first | exact HB.out | apply below_alloc | apply pw_below_drewN | apply below_drew1) | exact HB.out))) : w.heap.size ≤ gb127)); have n3_ := Aside0.mk ((by rw [hg]; exact (below_size (by repeat (first | (with_reducible first | exact HB.out | apply below_alloc | apply pw_below_drewN | apply below_drew1) | exact HB.out))) : w.heap.size ≤ gb127)); clear HB; have HB := n0_; have BK127 := n1_; have GW127 := n2_; have GE127 := n3_; clear n0_ n1_ n2_ n3_; clear hb hbox hg) | ((with_reducible refine gate_callee (f := 32) rfl ?_); refine goesL_ (some 9) rfl rfl Tryz.func32 (by kernel_rfl) rfl #[.string a0, .int .u8 32] rfl (by (try simp only [List.map_toArray, List.map_cons, List.map_nil]); first | done | rfl | (simp only [List.length_drop, List.length_take]; rfl)) ?_; (with_reducible refine (PCut.whispererref06_Cut.calls k a0 32 t128 _ A2.out).mono ?_); rintro e w10 ⟨v129, rfl, ho0, hb⟩; refine ⟨_, rfl, ?_⟩; have n0_ := Aside0.mk (Kd.R_lower ho0 (below_size (by repeat (first | (with_reducible first | exact HB.out | apply below_alloc | apply pw_below_drewN | apply below_drew1 | refine below_set ?_ GE127.out) | exact HB.out)))); have n1_ := Aside0.mk (blk_below (g := gb127) (o := .cells #[.int .u32 0, .int .u8 0, .int .u8 0] 25 (0, 0)) (by (with_reducible repeat (first | refine blk_drewN ?_ _ | refine blk_drew ?_ | refine blk_alloc ?_ _)); exact BK127.out) hb); have n2_ := Aside0.mk (below_step (by repeat (first | (with_reducible first | exact HB.out | apply below_alloc | apply pw_below_drewN | apply below_drew1 | refine below_set ?_ GE127.out) | exact HB.out)) hb); clear BK127; clear HB; have HO130 := n0_; have BK127 := n1_; have HB := n2_; clear n0_ n1_ n2_; (try clear hb); (try clear hb2); (try clear hk); (try clear hi); (try clear ho0); obtain ⟨Ao11, co11, eo11⟩ := Kd.R_slice HO130.out; subst eo11; have p131 : 0 ≤ (1 : Int) := (by omega); have q131 : 1 < (t128.length : Int) := of_decide_eq_true (by first | (with_reducible assumption) | assumption); obtain ⟨ad131, e131, hx131_0⟩ := Kd.at_string (Kd.R_reads' HO130.out).2.2 1 p131 q131; cases e131; (try simp only [show (1 : Int).toNat = 1 from rfl, Nat.reduceMul, Nat.reduceEqDiff, Go.Addr.add, ↓reduceIte] at hx131_0); have qi131 : (1 < t128.length) = True := eq_true (by omega); (try rw [show ((1 : Int)).toNat = 1 from rfl] at hx131_0); replace p131 := eq_true p131; replace q131 := eq_true q131) | ((with_reducible refine gate_callee (f := 33) rfl ?_); refine goesL_ (some 17) rfl rfl Tryz.func33 (by kernel_rfl) rfl #[.string (rdOf ByteArray.empty t128 1), .int .i64 10, .int .i64 3] rfl (by (try simp only [List.map_toArray, List.map_cons, List.map_nil]); first | done | rfl | (simp only [List.length_drop, List.length_take]; rfl)) ?_; (with_reducible refine (PNumber.whispererref06_Number.calls k (rdOf ByteArray.empty t128 1) 10 3 t132 _ A5.out).mono ?_); rintro e w' ⟨rfl, ⟨nd, rfl⟩⟩; refine ⟨_, rfl, ?_⟩; have p133 : 0 ≤ (2 : Int) := (by omega); have q133 : 2 < (t128.length : Int) := of_decide_eq_true (by first | (with_reducible assumption) | assumption); obtain ⟨ad133, e133, hx133_0⟩ := Kd.at_string (Kd.R_reads' HO130.out).2.2 2 p133 q133; obtain rfl : ad131 = ad133 := (by injection e133); (try simp only [show (2 : Int).toNat = 2 from rfl, Nat.reduceMul, Nat.reduceEqDiff, Go.Addr.add, ↓reduceIte] at hx133_0); have qi133 : (2 < t128.length) = True := eq_true (by omega); (try rw [show ((2 : Int)).toNat = 2 from rfl] at hx133_0); replace p133 := eq_true p133; replace q133 := eq_true q133) | ((with_reducible refine gate_callee (f := 33) rfl ?_); refine goesL_ (some 21) rfl rfl Tryz.func33 (by kernel_rfl) rfl #[.string (rdOf ByteArray.empty t128 2), .int .i64 10, .int .i64 3] rfl (by (try simp only [List.map_toArray, List.map_cons, List.map_nil]); first | done | rfl | (simp only [List.length_drop, List.length_take]; rfl)) ?_; (with_reducible refine (PNumber.whispererref06_Number.calls k (rdOf ByteArray.empty t128 2) 10 3 t134 _ A7.out).mono ?_); rintro e w' ⟨rfl, ⟨nd, rfl⟩⟩; refine ⟨_, rfl, ?_⟩))
        (try simp only [Act.put, List.setIfInBounds_toArray, List.set_cons_zero, List.set_cons_succ])
        go_cut [35] (fun v35 wc => ∃ (kq : Nat) (x35_7 : Bool), v35 = .bool x35_7 ∧ Aside0 (whispererref06_Read.j0 kq a0 t128 t132 t134 x35_7 = some (r1, r2, r3, r4)) ∧ Aside0 (kq ≤ k) ∧ Aside0 (Kd.R Kd.string 9 wc w.heap.size (fun _ => True) (.slice (some ad131) t128.length co11) t128) ∧ Aside0 (wc.heap[gb127]? = some (.cells #[.int .u32 0, .int .u8 0, .int .u8 0] 25 (0, 0))) ∧ Aside0 (Below w.heap.size w wc))
        case first =>
          have H := HC8.out
          clear HC8
          by_cases c12 : t132 < 0
          · rw [if_pos c12] at H
            have c12b0 : decide (t132 < 0) = true := decide_eq_true c12
            clear c12
            (first | rw [c12b0] | (simp only [i64_w, i32_w]; rw [c12b0]) | skip)
            have H' := Aside0.mk H
            clear H
            go_wp2
            go_meet
            case rel => exact ⟨_, (true), (by first | rfl | (simp; done) | (simp [*]; done)), H', ⟨by first | omega | exact Nat.le_refl _⟩, ⟨by (with_reducible repeat (first | apply Kd.R_alloc | apply Kd.R_drewN | apply Kd.R_drew)); exact HO130.out⟩, ⟨by (with_reducible repeat (first | refine blk_drewN ?_ _ | refine blk_drew ?_ | refine blk_alloc ?_ _)); exact BK127.out⟩, ⟨by repeat (first | (with_reducible first | exact HB.out | apply below_alloc | apply pw_below_drewN | apply below_drew1 | refine below_set ?_ GE127.out) | exact HB.out)⟩⟩
          · rw [if_neg c12] at H
            have c12b0 : decide (t132 < 0) = false := decide_eq_false c12
            clear c12
            (first | rw [c12b0] | (simp only [i64_w, i32_w]; rw [c12b0]) | skip)
            by_cases c13 : t132 > 255
            · rw [if_pos c13] at H
              have c13b0 : decide (255 < t132) = true := decide_eq_true c13
              clear c13
              have H' := Aside0.mk H
              clear H
              go_wp2
              go_meet
              case rel => exact ⟨_, (true), (by first | rfl | (simp; done) | (simp [*]; done)), H', ⟨by first | omega | exact Nat.le_refl _⟩, ⟨by (with_reducible repeat (first | apply Kd.R_alloc | apply Kd.R_drewN | apply Kd.R_drew)); exact HO130.out⟩, ⟨by (with_reducible repeat (first | refine blk_drewN ?_ _ | refine blk_drew ?_ | refine blk_alloc ?_ _)); exact BK127.out⟩, ⟨by repeat (first | (with_reducible first | exact HB.out | apply below_alloc | apply pw_below_drewN | apply below_drew1 | refine below_set ?_ GE127.out) | exact HB.out)⟩⟩
            · rw [if_neg c13] at H
              have c13b0 : decide (255 < t132) = false := decide_eq_false c13
              clear c13
              by_cases c14 : t134 < 0
              · rw [if_pos c14] at H
                have c14b0 : decide (t134 < 0) = true := decide_eq_true c14
                clear c14
                have H' := Aside0.mk H
                clear H
                go_wp2
                go_meet
                case rel => exact ⟨_, (true), (by first | rfl | (simp; done) | (simp [*]; done)), H', ⟨by first | omega | exact Nat.le_refl _⟩, ⟨by (with_reducible repeat (first | apply Kd.R_alloc | apply Kd.R_drewN | apply Kd.R_drew)); exact HO130.out⟩, ⟨by (with_reducible repeat (first | refine blk_drewN ?_ _ | refine blk_drew ?_ | refine blk_alloc ?_ _)); exact BK127.out⟩, ⟨by repeat (first | (with_reducible first | exact HB.out | apply below_alloc | apply pw_below_drewN | apply below_drew1 | refine below_set ?_ GE127.out) | exact HB.out)⟩⟩
              · rw [if_neg c14] at H
                have c14b0 : decide (t134 < 0) = false := decide_eq_false c14
                clear c14
                have H' := Aside0.mk H
                clear H
                go_wp2
                go_meet
                case rel => exact ⟨_, (decide (t134 > 255)), (by first | rfl | (simp; done) | (simp [*]; done)), H', ⟨by first | omega | exact Nat.le_refl _⟩, ⟨by (with_reducible repeat (first | apply Kd.R_alloc | apply Kd.R_drewN | apply Kd.R_drew)); exact HO130.out⟩, ⟨by (with_reducible repeat (first | refine blk_drewN ?_ _ | refine blk_drew ?_ | refine blk_alloc ?_ _)); exact BK127.out⟩, ⟨by repeat (first | (with_reducible first | exact HB.out | apply below_alloc | apply pw_below_drewN | apply below_drew1 | refine below_set ?_ GE127.out) | exact HB.out)⟩⟩
        case rest =>
          clear HC8
          try clear c1
          try clear p1
          try clear q1
          try clear hx1
          try clear qi1
          try clear p2
          try clear c3
          try clear c3b0
          try clear c3b1
          try clear c4
          try clear c4b0
          try clear c4b1
          try clear c6
          try clear c6b0
          try clear c6b1
          try clear c12
          try clear c12b0
          try clear c13
          try clear c13b0
          try clear p13
          try clear q13
          try clear hx13
          try clear qi13
          try clear c14
          try clear c14b0
          try clear hx131_0
          try clear hx133_0
          try clear p131
          try clear p133
          try clear q131
          try clear q133
          obtain ⟨kq, x35_7, rfl, HA, HJ7, HO_4, BK127, HB⟩ := hcut
          cases kq with
          | zero => exact absurd HA.out (by simp [whispererref06_Read.j0])
          | succ kj7 =>
            have H := HA.out
            clear HA
            simp only [whispererref06_Read.j0] at H
            by_cases c15 : x35_7 = true
            · subst c15
              have H1 : (some (0, 0, 0, 8)) = some (r1, r2, r3, r4) := by rw [if_pos rfl] at H; exact H
              clear H
              have H := H1
              clear H1
              simp only [Option.some.injEq, Prod.mk.injEq] at H
              obtain ⟨rfl, rfl, rfl, rfl⟩ := H
              have hcz16_0 : wc.cell? ⟨gb127, 0, none⟩ = some (.int .u32 0) := (blk_cell BK127.out 0).trans rfl
              have hcz16_1 : wc.cell? ⟨gb127, 1, none⟩ = some (.int .u8 0) := (blk_cell BK127.out 1).trans rfl
              have hcz16_2 : wc.cell? ⟨gb127, 2, none⟩ = some (.int .u8 0) := (blk_cell BK127.out 2).trans rfl
              have hfz16_0 := blk_frozen BK127.out 0
              have hfz16_1 := blk_frozen BK127.out 1
              have hfz16_2 := blk_frozen BK127.out 2
              go_wp2
              refine bodyPost_ret (results_ct rfl _ _ gb127 25 #[.int .u32 0, .int .u8 0, .int .u8 0] (0, 0) _ rfl (by (with_reducible repeat (first | refine blk_drewN ?_ _ | refine blk_drew ?_ | refine blk_alloc ?_ _)); refine blk_put (cs := #[.int .u32 0, .int .u8 0, .int .u8 0]) ?_ 2 _ rfl; (with_reducible repeat (first | refine blk_drewN ?_ _ | refine blk_drew ?_ | refine blk_alloc ?_ _)); refine blk_put (cs := #[.int .u32 0, .int .u8 0, .int .u8 0]) ?_ 1 _ rfl; (with_reducible repeat (first | refine blk_drewN ?_ _ | refine blk_drew ?_ | refine blk_alloc ?_ _)); refine blk_put (cs := #[.int .u32 0, .int .u8 0, .int .u8 0]) ?_ 0 _ rfl; (with_reducible repeat (first | refine blk_drewN ?_ _ | refine blk_drew ?_ | refine blk_alloc ?_ _)); exact BK127.out) Tryz.underlying25 rfl (by kernel_rfl)) rfl ?_
              exact ⟨by first | rfl | (simp [errW_none, errW_some] <;> rfl) | (simp [*, errW_none, errW_some] <;> rfl), by repeat (first | (with_reducible first | exact HB.out | apply below_alloc | apply pw_below_drewN | apply below_drew1 | refine below_set ?_ GE127.out) | exact HB.out)⟩
            · replace c15 := Bool.eq_false_iff.mpr c15
              subst c15
              have H1 : (if 0 < (t128.length : Int) then ((whispererref06_flags.f kj7 (rdOf ByteArray.empty t128 0)).bind fun t136 => ((whispererref06_Text.f kj7 t136 ((t132) % 256) ((t134) % 256)).bind fun t138 => (if t138.toList = a0.toList then (some (t136, (t132) % 256, (t134) % 256, 0)) else (some (0, 0, 0, 8))))) else (none)) = some (r1, r2, r3, r4) := by rw [if_neg (show ¬ (false = true) by decide)] at H; exact H
              clear H
              have H := H1
              clear H1
              by_cases c17 : 0 < (t128.length : Int)
              · rw [if_pos c17] at H
                have c17b0 : decide (0 < (t128.length : Int)) = true := decide_eq_true c17
                have c17b1 : decide (0 < t128.length) = true := decide_eq_true (by omega)
                clear c17
                replace H := Option.bind_eq_some_iff.mp H
                obtain ⟨t136, A180, H⟩ := H
                replace H : ((whispererref06_Text.f kj7 t136 ((t132) % 256) ((t134) % 256)).bind fun t138 => (if t138.toList = a0.toList then (some (t136, (t132) % 256, (t134) % 256, 0)) else (some (0, 0, 0, 8)))) = some (r1, r2, r3, r4) := H
                have A18 := Aside0.mk A180
                clear A180
                replace H := Option.bind_eq_some_iff.mp H
                obtain ⟨t138, A190, H⟩ := H
                replace H : (if t138.toList = a0.toList then (some (t136, (t132) % 256, (t134) % 256, 0)) else (some (0, 0, 0, 8))) = some (r1, r2, r3, r4) := H
                have A19 := Aside0.mk A190
                clear A190
                by_cases c20 : t138.toList = a0.toList
                · rw [if_pos c20] at H
                  have c20b0 : (t138.toList == a0.toList) = true := beq_iff_eq.mpr c20
                  have c20b1 : (t138.toList != a0.toList) = false := bne_eq_false_iff_eq.mpr c20
                  clear c20
                  simp only [Option.some.injEq, Prod.mk.injEq] at H
                  obtain ⟨rfl, rfl, rfl, rfl⟩ := H
                  have p135 : 0 ≤ (0 : Int) := (by omega)
                  have q135 : 0 < (t128.length : Int) := of_decide_eq_true (by first | (with_reducible assumption) | assumption)
                  obtain ⟨ad135, e135, hx135_0⟩ := Kd.at_string (Kd.R_reads' HO_4.out).2.2 0 p135 q135
                  obtain rfl : ad131 = ad135 := (by injection e135)
                  have qi135 : (0 < t128.length) = True := eq_true (by omega)
                  (try rw [show ((0 : Int)).toNat = 0 from rfl] at hx135_0)
                  (try rw [Addr.add_zero'] at hx135_0)
                  replace p135 := eq_true p135
                  replace q135 := eq_true q135
                  go_wp2_with (first | ((with_reducible refine gate_callee (f := 58) rfl ?_); refine goesL_ (some 40) rfl rfl Tryz.func58 (by kernel_rfl) rfl #[.string (rdOf ByteArray.empty t128 0)] rfl (by (try simp only [List.map_toArray, List.map_cons, List.map_nil]); first | done | rfl | (simp only [List.length_drop, List.length_take]; rfl)) ?_; (with_reducible refine (whispererref06_flags.calls kj7 (rdOf ByteArray.empty t128 0) t136 _ A18.out).mono ?_); rintro e w21 ⟨rfl, hb⟩; refine ⟨_, rfl, ?_⟩; have n0_ := Aside0.mk (Kd.R_below (by (with_reducible repeat (first | apply Kd.R_alloc | apply Kd.R_drewN | apply Kd.R_drew)); exact HO_4.out) hb); have n1_ := Aside0.mk (blk_below (g := gb127) (o := .cells #[.int .u32 0, .int .u8 0, .int .u8 0] 25 (0, 0)) (by (with_reducible repeat (first | refine blk_drewN ?_ _ | refine blk_drew ?_ | refine blk_alloc ?_ _)); exact BK127.out) hb); have n2_ := Aside0.mk (below_step (by repeat (first | (with_reducible first | exact HB.out | apply below_alloc | apply pw_below_drewN | apply below_drew1 | refine below_set ?_ GE127.out) | exact HB.out)) hb); clear HO_4; clear BK127; clear HB; have HO_4 := n0_; have BK127 := n1_; have HB := n2_; clear n0_ n1_ n2_; (try clear hb); (try clear hb2); (try clear hk); (try clear hi)) | ((with_reducible refine gate_dst (N := 7) rfl ?_); refine box_event ?hg (N := 7) ?hd (cs := #[.int .u32 0, .int .u8 0, .int .u8 0]) (t := 25) ?hr ?_; (case hd => rfl); (case hg => rfl); (case hr => first | (go_simp; done) | (go_simp; rfl)); intro gb137 hg w22 hbox hb; have n0_ := Aside0.mk (Kd.R_below (by (with_reducible repeat (first | apply Kd.R_alloc | apply Kd.R_drewN | apply Kd.R_drew)); exact HO_4.out) hb); have n1_ := Aside0.mk (blk_below (g := gb127) (o := .cells #[.int .u32 0, .int .u8 0, .int .u8 0] 25 (0, 0)) (by (with_reducible repeat (first | refine blk_drewN ?_ _ | refine blk_drew ?_ | refine blk_alloc ?_ _)); exact BK127.out) hb); have n2_ := Aside0.mk (below_step (by repeat (first | (with_reducible first | exact HB.out | apply below_alloc | apply pw_below_drewN | apply below_drew1 | refine below_set ?_ GE127.out) | exact HB.out)) hb); have n3_ := Aside0.mk (hbox); have n4_ := Aside0.mk ((by rw [hg]; exact (below_size (by repeat (first | (with_reducible first | exact HB.out | apply below_alloc | apply pw_below_drewN | apply below_drew1 | refine below_set ?_ GE127.out) | exact HB.out))) : w.heap.size ≤ gb137)); have n5_ := Aside0.mk ((by rw [hg]; exact (below_size (by repeat (first | (with_reducible first | exact HB.out | apply below_alloc | apply pw_below_drewN | apply below_drew1 | refine below_set ?_ GE127.out) | exact HB.out))) : w.heap.size ≤ gb137)); have n6_ := Aside0.mk ((by rw [hg]; exact Nat.ne_of_lt (blk_lt (g := gb127) (o := .cells #[.int .u32 0, .int .u8 0, .int .u8 0] 25 (0, 0)) (by (with_reducible repeat (first | refine blk_drewN ?_ _ | refine blk_drew ?_ | refine blk_alloc ?_ _)); exact BK127.out)) : gb127 ≠ gb137)); have n7_ := Aside0.mk ((by rw [hg]; exact Nat.ne_of_gt (blk_lt (g := gb127) (o := .cells #[.int .u32 0, .int .u8 0, .int .u8 0] 25 (0, 0)) (by (with_reducible repeat (first | refine blk_drewN ?_ _ | refine blk_drew ?_ | refine blk_alloc ?_ _)); exact BK127.out)) : gb137 ≠ gb127)); clear HO_4; clear BK127; clear HB; have HO_4 := n0_; have BK127 := n1_; have HB := n2_; have BK137 := n3_; have GW137 := n4_; have GE137 := n5_; have NB127_137 := n6_; have NB137_127 := n7_; clear n0_ n1_ n2_ n3_ n4_ n5_ n6_ n7_; clear hb hbox hg; have hnb23 := NB137_127.out; have hnc23 := NB127_137.out; have hcz24_0 : w22.cell? ⟨gb137, 0, none⟩ = some (.int .u32 0) := (blk_cell BK137.out 0).trans rfl; have hcz24_1 : w22.cell? ⟨gb137, 1, none⟩ = some (.int .u8 0) := (blk_cell BK137.out 1).trans rfl; have hcz24_2 : w22.cell? ⟨gb137, 2, none⟩ = some (.int .u8 0) := (blk_cell BK137.out 2).trans rfl; have hfz24_0 := blk_frozen BK137.out 0; have hfz24_1 := blk_frozen BK137.out 1; have hfz24_2 := blk_frozen BK137.out 2) | ((with_reducible refine gate_callee (f := 29) rfl ?_); refine goesL_ (some 47) rfl rfl Tryz.func29 (by kernel_rfl) rfl #[.agg #[.int .u32 t136, .int .u8 ((t132) % 256), .int .u8 ((t134) % 256)]] rfl (by (try simp only [List.map_toArray, List.map_cons, List.map_nil]); first | done | rfl | (simp only [List.length_drop, List.length_take]; rfl)) ?_; (with_reducible refine (whispererref06_Text.calls kj7 t136 ((t132) % 256) ((t134) % 256) t138 _ A19.out).mono ?_); rintro e w25 ⟨rfl, hb⟩; refine ⟨_, rfl, ?_⟩; have n0_ := Aside0.mk (Kd.R_below (by (with_reducible repeat (first | apply Kd.R_alloc | apply Kd.R_drewN | apply Kd.R_drew)); exact (Kd.R_mono (Kd.R_far (p := ⟨gb137, 2, none⟩) (Kd.R_far (p := ⟨gb137, 1, none⟩) (Kd.R_far (p := ⟨gb137, 0, none⟩) (Kd.R_types HO_4.out BK137.out (by decide)) (fun _ hk => hk.2) (.int .u32 t136)) (fun _ hk => hk.2) (.int .u8 ((t132) % 256))) (fun _ hk => hk.2) (.int .u8 ((t134) % 256))) (fun _ h_ => h_.1))) hb); have n1_ := Aside0.mk (blk_below (g := gb127) (o := .cells #[.int .u32 0, .int .u8 0, .int .u8 0] 25 (0, 0)) (by (with_reducible repeat (first | refine blk_drewN ?_ _ | refine blk_drew ?_ | refine blk_alloc ?_ _)); refine blk_far ?_ NB127_137.out _; (with_reducible repeat (first | refine blk_drewN ?_ _ | refine blk_drew ?_ | refine blk_alloc ?_ _)); refine blk_far ?_ NB127_137.out _; (with_reducible repeat (first | refine blk_drewN ?_ _ | refine blk_drew ?_ | refine blk_alloc ?_ _)); refine blk_far ?_ NB127_137.out _; (with_reducible repeat (first | refine blk_drewN ?_ _ | refine blk_drew ?_ | refine blk_alloc ?_ _)); exact BK127.out) hb); have n2_ := Aside0.mk (blk_below (g := gb137) (o := .cells #[.int .u32 t136, .int .u8 ((t132) % 256), .int .u8 ((t134) % 256)] 25 (0, 0)) (by (with_reducible repeat (first | refine blk_drewN ?_ _ | refine blk_drew ?_ | refine blk_alloc ?_ _)); refine blk_put (cs := #[.int .u32 t136, .int .u8 ((t132) % 256), .int .u8 0]) ?_ 2 _ rfl; (with_reducible repeat (first | refine blk_drewN ?_ _ | refine blk_drew ?_ | refine blk_alloc ?_ _)); refine blk_put (cs := #[.int .u32 t136, .int .u8 0, .int .u8 0]) ?_ 1 _ rfl; (with_reducible repeat (first | refine blk_drewN ?_ _ | refine blk_drew ?_ | refine blk_alloc ?_ _)); refine blk_put (cs := #[.int .u32 0, .int .u8 0, .int .u8 0]) ?_ 0 _ rfl; (with_reducible repeat (first | refine blk_drewN ?_ _ | refine blk_drew ?_ | refine blk_alloc ?_ _)); exact BK137.out) hb); have n3_ := Aside0.mk (below_step (by repeat (first | (with_reducible first | exact HB.out | apply below_alloc | apply pw_below_drewN | apply below_drew1 | refine below_set ?_ GE127.out | refine below_set ?_ GE137.out) | exact HB.out)) hb); clear HO_4; clear BK127; clear BK137; clear HB; have HO_4 := n0_; have BK127 := n1_; have BK137 := n2_; have HB := n3_; clear n0_ n1_ n2_ n3_; (try clear hb); (try clear hb2); (try clear hk); (try clear hi); have hcz26_0 : w25.cell? ⟨gb137, 0, none⟩ = some (.int .u32 t136) := (blk_cell BK137.out 0).trans rfl; have hcz26_1 : w25.cell? ⟨gb137, 1, none⟩ = some (.int .u8 ((t132) % 256)) := (blk_cell BK137.out 1).trans rfl; have hcz26_2 : w25.cell? ⟨gb137, 2, none⟩ = some (.int .u8 ((t134) % 256)) := (blk_cell BK137.out 2).trans rfl; have hfz26_0 := blk_frozen BK137.out 0; have hfz26_1 := blk_frozen BK137.out 1; have hfz26_2 := blk_frozen BK137.out 2; have hcz27_0 : w25.cell? ⟨gb127, 0, none⟩ = some (.int .u32 0) := (blk_cell BK127.out 0).trans rfl; have hcz27_1 : w25.cell? ⟨gb127, 1, none⟩ = some (.int .u8 0) := (blk_cell BK127.out 1).trans rfl; have hcz27_2 : w25.cell? ⟨gb127, 2, none⟩ = some (.int .u8 0) := (blk_cell BK127.out 2).trans rfl; have hfz27_0 := blk_frozen BK127.out 0; have hfz27_1 := blk_frozen BK127.out 1; have hfz27_2 := blk_frozen BK127.out 2))
                  refine bodyPost_ret (results_ct rfl _ _ gb127 25 #[.int .u32 t136, .int .u8 ((t132) % 256), .int .u8 ((t134) % 256)] (0, 0) _ rfl (by (with_reducible repeat (first | refine blk_drewN ?_ _ | refine blk_drew ?_ | refine blk_alloc ?_ _)); refine blk_put (cs := #[.int .u32 t136, .int .u8 ((t132) % 256), .int .u8 0]) ?_ 2 _ rfl; (with_reducible repeat (first | refine blk_drewN ?_ _ | refine blk_drew ?_ | refine blk_alloc ?_ _)); refine blk_put (cs := #[.int .u32 t136, .int .u8 0, .int .u8 0]) ?_ 1 _ rfl; (with_reducible repeat (first | refine blk_drewN ?_ _ | refine blk_drew ?_ | refine blk_alloc ?_ _)); refine blk_put (cs := #[.int .u32 0, .int .u8 0, .int .u8 0]) ?_ 0 _ rfl; (with_reducible repeat (first | refine blk_drewN ?_ _ | refine blk_drew ?_ | refine blk_alloc ?_ _)); exact BK127.out) Tryz.underlying25 rfl (by kernel_rfl)) rfl ?_
                  exact ⟨by first | rfl | (simp [errW_none, errW_some] <;> rfl) | (simp [*, errW_none, errW_some] <;> rfl), by repeat (first | (with_reducible first | exact HB.out | apply below_alloc | apply pw_below_drewN | apply below_drew1 | refine below_set ?_ GE127.out | refine below_set ?_ GE137.out) | exact HB.out)⟩
                · rw [if_neg c20] at H
                  have c20b0 : (t138.toList == a0.toList) = false := beq_eq_false_iff_ne.mpr c20
                  have c20b1 : (t138.toList != a0.toList) = true := bne_iff_ne.mpr c20
                  simp only [Option.some.injEq, Prod.mk.injEq] at H
                  obtain ⟨rfl, rfl, rfl, rfl⟩ := H
                  have p135 : 0 ≤ (0 : Int) := (by omega)
                  have q135 : 0 < (t128.length : Int) := of_decide_eq_true (by first | (with_reducible assumption) | assumption)
                  obtain ⟨ad135, e135, hx135_0⟩ := Kd.at_string (Kd.R_reads' HO_4.out).2.2 0 p135 q135
                  obtain rfl : ad131 = ad135 := (by injection e135)
                  have qi135 : (0 < t128.length) = True := eq_true (by omega)
                  (try rw [show ((0 : Int)).toNat = 0 from rfl] at hx135_0)
                  (try rw [Addr.add_zero'] at hx135_0)
                  replace p135 := eq_true p135
                  replace q135 := eq_true q135
                  go_wp2_with (first | ((with_reducible refine gate_callee (f := 58) rfl ?_); refine goesL_ (some 40) rfl rfl Tryz.func58 (by kernel_rfl) rfl #[.string (rdOf ByteArray.empty t128 0)] rfl (by (try simp only [List.map_toArray, List.map_cons, List.map_nil]); first | done | rfl | (simp only [List.length_drop, List.length_take]; rfl)) ?_; (with_reducible refine (whispererref06_flags.calls kj7 (rdOf ByteArray.empty t128 0) t136 _ A18.out).mono ?_); rintro e w28 ⟨rfl, hb⟩; refine ⟨_, rfl, ?_⟩; have n0_ := Aside0.mk (Kd.R_below (by (with_reducible repeat (first | apply Kd.R_alloc | apply Kd.R_drewN | apply Kd.R_drew)); exact HO_4.out) hb); have n1_ := Aside0.mk (blk_below (g := gb127) (o := .cells #[.int .u32 0, .int .u8 0, .int .u8 0] 25 (0, 0)) (by (with_reducible repeat (first | refine blk_drewN ?_ _ | refine blk_drew ?_ | refine blk_alloc ?_ _)); exact BK127.out) hb); have n2_ := Aside0.mk (below_step (by repeat (first | (with_reducible first | exact HB.out | apply below_alloc | apply pw_below_drewN | apply below_drew1 | refine below_set ?_ GE127.out) | exact HB.out)) hb); clear HO_4; clear BK127; clear HB; have HO_4 := n0_; have BK127 := n1_; have HB := n2_; clear n0_ n1_ n2_; (try clear hb); (try clear hb2); (try clear hk); (try clear hi)) | ((with_reducible refine gate_dst (N := 7) rfl ?_); refine box_event ?hg (N := 7) ?hd (cs := #[.int .u32 0, .int .u8 0, .int .u8 0]) (t := 25) ?hr ?_; (case hd => rfl); (case hg => rfl); (case hr => first | (go_simp; done) | (go_simp; rfl)); intro gb137 hg w29 hbox hb; have n0_ := Aside0.mk (Kd.R_below (by (with_reducible repeat (first | apply Kd.R_alloc | apply Kd.R_drewN | apply Kd.R_drew)); exact HO_4.out) hb); have n1_ := Aside0.mk (blk_below (g := gb127) (o := .cells #[.int .u32 0, .int .u8 0, .int .u8 0] 25 (0, 0)) (by (with_reducible repeat (first | refine blk_drewN ?_ _ | refine blk_drew ?_ | refine blk_alloc ?_ _)); exact BK127.out) hb); have n2_ := Aside0.mk (below_step (by repeat (first | (with_reducible first | exact HB.out | apply below_alloc | apply pw_below_drewN | apply below_drew1 | refine below_set ?_ GE127.out) | exact HB.out)) hb); have n3_ := Aside0.mk (hbox); have n4_ := Aside0.mk ((by rw [hg]; exact (below_size (by repeat (first | (with_reducible first | exact HB.out | apply below_alloc | apply pw_below_drewN | apply below_drew1 | refine below_set ?_ GE127.out) | exact HB.out))) : w.heap.size ≤ gb137)); have n5_ := Aside0.mk ((by rw [hg]; exact (below_size (by repeat (first | (with_reducible first | exact HB.out | apply below_alloc | apply pw_below_drewN | apply below_drew1 | refine below_set ?_ GE127.out) | exact HB.out))) : w.heap.size ≤ gb137)); have n6_ := Aside0.mk ((by rw [hg]; exact Nat.ne_of_lt (blk_lt (g := gb127) (o := .cells #[.int .u32 0, .int .u8 0, .int .u8 0] 25 (0, 0)) (by (with_reducible repeat (first | refine blk_drewN ?_ _ | refine blk_drew ?_ | refine blk_alloc ?_ _)); exact BK127.out)) : gb127 ≠ gb137)); have n7_ := Aside0.mk ((by rw [hg]; exact Nat.ne_of_gt (blk_lt (g := gb127) (o := .cells #[.int .u32 0, .int .u8 0, .int .u8 0] 25 (0, 0)) (by (with_reducible repeat (first | refine blk_drewN ?_ _ | refine blk_drew ?_ | refine blk_alloc ?_ _)); exact BK127.out)) : gb137 ≠ gb127)); clear HO_4; clear BK127; clear HB; have HO_4 := n0_; have BK127 := n1_; have HB := n2_; have BK137 := n3_; have GW137 := n4_; have GE137 := n5_; have NB127_137 := n6_; have NB137_127 := n7_; clear n0_ n1_ n2_ n3_ n4_ n5_ n6_ n7_; clear hb hbox hg; have hnb30 := NB137_127.out; have hnc30 := NB127_137.out; have hcz31_0 : w29.cell? ⟨gb137, 0, none⟩ = some (.int .u32 0) := (blk_cell BK137.out 0).trans rfl; have hcz31_1 : w29.cell? ⟨gb137, 1, none⟩ = some (.int .u8 0) := (blk_cell BK137.out 1).trans rfl; have hcz31_2 : w29.cell? ⟨gb137, 2, none⟩ = some (.int .u8 0) := (blk_cell BK137.out 2).trans rfl; have hfz31_0 := blk_frozen BK137.out 0; have hfz31_1 := blk_frozen BK137.out 1; have hfz31_2 := blk_frozen BK137.out 2) | ((with_reducible refine gate_callee (f := 29) rfl ?_); refine goesL_ (some 47) rfl rfl Tryz.func29 (by kernel_rfl) rfl #[.agg #[.int .u32 t136, .int .u8 ((t132) % 256), .int .u8 ((t134) % 256)]] rfl (by (try simp only [List.map_toArray, List.map_cons, List.map_nil]); first | done | rfl | (simp only [List.length_drop, List.length_take]; rfl)) ?_; (with_reducible refine (whispererref06_Text.calls kj7 t136 ((t132) % 256) ((t134) % 256) t138 _ A19.out).mono ?_); rintro e w32 ⟨rfl, hb⟩; refine ⟨_, rfl, ?_⟩; have n0_ := Aside0.mk (Kd.R_below (by (with_reducible repeat (first | apply Kd.R_alloc | apply Kd.R_drewN | apply Kd.R_drew)); exact (Kd.R_mono (Kd.R_far (p := ⟨gb137, 2, none⟩) (Kd.R_far (p := ⟨gb137, 1, none⟩) (Kd.R_far (p := ⟨gb137, 0, none⟩) (Kd.R_types HO_4.out BK137.out (by decide)) (fun _ hk => hk.2) (.int .u32 t136)) (fun _ hk => hk.2) (.int .u8 ((t132) % 256))) (fun _ hk => hk.2) (.int .u8 ((t134) % 256))) (fun _ h_ => h_.1))) hb); have n1_ := Aside0.mk (blk_below (g := gb127) (o := .cells #[.int .u32 0, .int .u8 0, .int .u8 0] 25 (0, 0)) (by (with_reducible repeat (first | refine blk_drewN ?_ _ | refine blk_drew ?_ | refine blk_alloc ?_ _)); refine blk_far ?_ NB127_137.out _; (with_reducible repeat (first | refine blk_drewN ?_ _ | refine blk_drew ?_ | refine blk_alloc ?_ _)); refine blk_far ?_ NB127_137.out _; (with_reducible repeat (first | refine blk_drewN ?_ _ | refine blk_drew ?_ | refine blk_alloc ?_ _)); refine blk_far ?_ NB127_137.out _; (with_reducible repeat (first | refine blk_drewN ?_ _ | refine blk_drew ?_ | refine blk_alloc ?_ _)); exact BK127.out) hb); have n2_ := Aside0.mk (blk_below (g := gb137) (o := .cells #[.int .u32 t136, .int .u8 ((t132) % 256), .int .u8 ((t134) % 256)] 25 (0, 0)) (by (with_reducible repeat (first | refine blk_drewN ?_ _ | refine blk_drew ?_ | refine blk_alloc ?_ _)); refine blk_put (cs := #[.int .u32 t136, .int .u8 ((t132) % 256), .int .u8 0]) ?_ 2 _ rfl; (with_reducible repeat (first | refine blk_drewN ?_ _ | refine blk_drew ?_ | refine blk_alloc ?_ _)); refine blk_put (cs := #[.int .u32 t136, .int .u8 0, .int .u8 0]) ?_ 1 _ rfl; (with_reducible repeat (first | refine blk_drewN ?_ _ | refine blk_drew ?_ | refine blk_alloc ?_ _)); refine blk_put (cs := #[.int .u32 0, .int .u8 0, .int .u8 0]) ?_ 0 _ rfl; (with_reducible repeat (first | refine blk_drewN ?_ _ | refine blk_drew ?_ | refine blk_alloc ?_ _)); exact BK137.out) hb); have n3_ := Aside0.mk (below_step (by repeat (first | (with_reducible first | exact HB.out | apply below_alloc | apply pw_below_drewN | apply below_drew1 | refine below_set ?_ GE127.out | refine below_set ?_ GE137.out) | exact HB.out)) hb); clear HO_4; clear BK127; clear BK137; clear HB; have HO_4 := n0_; have BK127 := n1_; have BK137 := n2_; have HB := n3_; clear n0_ n1_ n2_ n3_; (try clear hb); (try clear hb2); (try clear hk); (try clear hi); have hcz33_0 : w32.cell? ⟨gb127, 0, none⟩ = some (.int .u32 0) := (blk_cell BK127.out 0).trans rfl; have hcz33_1 : w32.cell? ⟨gb127, 1, none⟩ = some (.int .u8 0) := (blk_cell BK127.out 1).trans rfl; have hcz33_2 : w32.cell? ⟨gb127, 2, none⟩ = some (.int .u8 0) := (blk_cell BK127.out 2).trans rfl; have hfz33_0 := blk_frozen BK127.out 0; have hfz33_1 := blk_frozen BK127.out 1; have hfz33_2 := blk_frozen BK127.out 2))
                  refine bodyPost_ret (results_ct rfl _ _ gb127 25 #[.int .u32 0, .int .u8 0, .int .u8 0] (0, 0) _ rfl (by (with_reducible repeat (first | refine blk_drewN ?_ _ | refine blk_drew ?_ | refine blk_alloc ?_ _)); refine blk_put (cs := #[.int .u32 0, .int .u8 0, .int .u8 0]) ?_ 2 _ rfl; (with_reducible repeat (first | refine blk_drewN ?_ _ | refine blk_drew ?_ | refine blk_alloc ?_ _)); refine blk_put (cs := #[.int .u32 0, .int .u8 0, .int .u8 0]) ?_ 1 _ rfl; (with_reducible repeat (first | refine blk_drewN ?_ _ | refine blk_drew ?_ | refine blk_alloc ?_ _)); refine blk_put (cs := #[.int .u32 0, .int .u8 0, .int .u8 0]) ?_ 0 _ rfl; (with_reducible repeat (first | refine blk_drewN ?_ _ | refine blk_drew ?_ | refine blk_alloc ?_ _)); exact BK127.out) Tryz.underlying25 rfl (by kernel_rfl)) rfl ?_
                  exact ⟨by first | rfl | (simp [errW_none, errW_some] <;> rfl) | (simp [*, errW_none, errW_some] <;> rfl), by repeat (first | (with_reducible first | exact HB.out | apply below_alloc | apply pw_below_drewN | apply below_drew1 | refine below_set ?_ GE127.out | refine below_set ?_ GE137.out) | exact HB.out)⟩
              · rw [if_neg c17] at H
                exact absurd H (by simp)
      · rw [if_neg c6] at H
        exact absurd H (by simp)
    · rw [if_neg c4] at H
      exact absurd H (by simp)
  · rw [if_neg c3] at H
    have c3b0 : ((t128.length : Int) == 3) = false := beq_eq_false_iff_ne.mpr c3
    have c3b1 : ((t128.length : Int) != 3) = true := bne_iff_ne.mpr c3
    simp only [Option.some.injEq, Prod.mk.injEq] at H
    obtain ⟨rfl, rfl, rfl, rfl⟩ := H
    go_enter Tryz.func34, Tryz.ntmps34
    go_wp2_with (first | ((with_reducible refine gate_dst (N := 2) rfl ?_); refine box_event ?hg (N := 2) ?hd (cs := #[.int .u32 0, .int .u8 0, .int .u8 0]) (t := 25) ?hr ?_; (case hd => rfl); (case hg => rfl); (case hr => first | (go_simp; done) | (go_simp; rfl)); intro gb127 hg w34 hbox hb; have n0_ := Aside0.mk (below_step (by repeat (first | (with_reducible first | exact HB.out | apply below_alloc | apply pw_below_drewN | apply below_drew1) | exact HB.out)) hb); have n1_ := Aside0.mk (hbox); have n2_ := Aside0.mk ((by rw [hg]; exact (below_size (by repeat (first | (with_reducible first | exact HB.out | apply below_alloc | apply pw_below_drewN | apply below_drew1) | exact HB.out))) : w.heap.size ≤ gb127)); have n3_ := Aside0.mk ((by rw [hg]; exact (below_size (by repeat (first | (with_reducible first | exact HB.out | apply below_alloc | apply pw_below_drewN | apply below_drew1) | exact HB.out))) : w.heap.size ≤ gb127)); clear HB; have HB := n0_; have BK127 := n1_; have GW127 := n2_; have GE127 := n3_; clear n0_ n1_ n2_ n3_; clear hb hbox hg) | ((with_reducible refine gate_callee (f := 32) rfl ?_); refine goesL_ (some 9) rfl rfl Tryz.func32 (by kernel_rfl) rfl #[.string a0, .int .u8 32] rfl (by (try simp only [List.map_toArray, List.map_cons, List.map_nil]); first | done | rfl | (simp only [List.length_drop, List.length_take]; rfl)) ?_; (with_reducible refine (PCut.whispererref06_Cut.calls k a0 32 t128 _ A2.out).mono ?_); rintro e w35 ⟨v129, rfl, ho0, hb⟩; refine ⟨_, rfl, ?_⟩; have n0_ := Aside0.mk (Kd.R_lower ho0 (below_size (by repeat (first | (with_reducible first | exact HB.out | apply below_alloc | apply pw_below_drewN | apply below_drew1 | refine below_set ?_ GE127.out) | exact HB.out)))); have n1_ := Aside0.mk (blk_below (g := gb127) (o := .cells #[.int .u32 0, .int .u8 0, .int .u8 0] 25 (0, 0)) (by (with_reducible repeat (first | refine blk_drewN ?_ _ | refine blk_drew ?_ | refine blk_alloc ?_ _)); exact BK127.out) hb); have n2_ := Aside0.mk (below_step (by repeat (first | (with_reducible first | exact HB.out | apply below_alloc | apply pw_below_drewN | apply below_drew1 | refine below_set ?_ GE127.out) | exact HB.out)) hb); clear BK127; clear HB; have HO130 := n0_; have BK127 := n1_; have HB := n2_; clear n0_ n1_ n2_; (try clear hb); (try clear hb2); (try clear hk); (try clear hi); (try clear ho0); obtain ⟨Ao36, co36, eo36⟩ := Kd.R_slice HO130.out; subst eo36; have hcz37_0 : w35.cell? ⟨gb127, 0, none⟩ = some (.int .u32 0) := (blk_cell BK127.out 0).trans rfl; have hcz37_1 : w35.cell? ⟨gb127, 1, none⟩ = some (.int .u8 0) := (blk_cell BK127.out 1).trans rfl; have hcz37_2 : w35.cell? ⟨gb127, 2, none⟩ = some (.int .u8 0) := (blk_cell BK127.out 2).trans rfl; have hfz37_0 := blk_frozen BK127.out 0; have hfz37_1 := blk_frozen BK127.out 1; have hfz37_2 := blk_frozen BK127.out 2))
    refine bodyPost_ret (results_ct rfl _ _ gb127 25 #[.int .u32 0, .int .u8 0, .int .u8 0] (0, 0) _ rfl (by (with_reducible repeat (first | refine blk_drewN ?_ _ | refine blk_drew ?_ | refine blk_alloc ?_ _)); refine blk_put (cs := #[.int .u32 0, .int .u8 0, .int .u8 0]) ?_ 2 _ rfl; (with_reducible repeat (first | refine blk_drewN ?_ _ | refine blk_drew ?_ | refine blk_alloc ?_ _)); refine blk_put (cs := #[.int .u32 0, .int .u8 0, .int .u8 0]) ?_ 1 _ rfl; (with_reducible repeat (first | refine blk_drewN ?_ _ | refine blk_drew ?_ | refine blk_alloc ?_ _)); refine blk_put (cs := #[.int .u32 0, .int .u8 0, .int .u8 0]) ?_ 0 _ rfl; (with_reducible repeat (first | refine blk_drewN ?_ _ | refine blk_drew ?_ | refine blk_alloc ?_ _)); exact BK127.out) Tryz.underlying25 rfl (by kernel_rfl)) rfl ?_
    exact ⟨by first | rfl | (simp [errW_none, errW_some] <;> rfl) | (simp [*, errW_none, errW_some] <;> rfl), by repeat (first | (with_reducible first | exact HB.out | apply below_alloc | apply pw_below_drewN | apply below_drew1 | refine below_set ?_ GE127.out) | exact HB.out)⟩

end Go.Proofs.YtbiogabekhegaaaGreatDoor.PRead
