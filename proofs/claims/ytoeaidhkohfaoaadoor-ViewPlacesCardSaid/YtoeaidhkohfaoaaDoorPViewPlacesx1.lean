-- Printed by a changed copy of the kit's print program that takes contracts proved by hand. Not trusted: Lean checks it.
import Derived.Test.YtoeaidhkohfaoaaDoorPViewPlacesx0
namespace Go.Proofs.YtoeaidhkohfaoaaDoor.PViewPlaces
open Go.RowKit Go.Proofs.YtoeaidhkohfaoaaDoorW.PrintWords Go.Proofs.YtoeaidhkohfaoaaDoorW.PrintLast Go.Proofs.YtoeaidhkohfaoaaDoorW.PrintMore
attribute [local go_sem] max2_int min2_int max_two min_two max_three min_three max_four min_four   -- for this text's walks alone
set_option linter.unusedVariables false
set_option linter.unusedSimpArgs false

-- BY HAND: function 9 (view_Render)

/-! ### whispererlaw13_alive: function 8 -/
def whispererlaw13_alive.f (k : Nat)  : Option (Bool) := (Hand.view_Render.f k (⟨#[112, 119, 58, 32]⟩ : ByteArray) 1 0 3 1).bind fun bt101 => ((Hand.view_Render.f k (⟨#[112, 119, 58, 32]⟩ : ByteArray) 2 0 3 1).bind fun bt105 => (if bt101.2 = 0 then (if (strOfNums bt101.1).toList = ([13, 112, 119, 58, 32, 42, 42, 42, 27, 91, 75, 27, 91, 50, 68] : List UInt8) then (if bt105.2 = 0 then (some ((strOfNums bt105.1).toList == ([13, 112, 119, 58, 32, 42, 42, 42, 42, 42, 42, 42, 42, 27, 91, 75] : List UInt8))) else (some false)) else (some false)) else (some false)))
theorem whispererlaw13_alive.mono : ∀ k, LeO (whispererlaw13_alive.f k ) (whispererlaw13_alive.f (k + 1) ) := by
  intro  k
  unfold whispererlaw13_alive.f
  repeat' first
      | (with_reducible exact Hand.view_Render.mono _ _ _ _ _ _)
      | (with_reducible exact LeO.refl _)
      | (with_reducible exact LeO.none _)
      | (with_reducible refine LeO.ite ?_ ?_)
      | (with_reducible refine LeO.bind ?_ (fun _ => ?_))
      | exact Hand.view_Render.mono _ _ _ _ _ _
      | exact LeO.none _
      | refine LeO.ite ?_ ?_
      | refine LeO.bind ?_ (fun _ => ?_)
set_option maxHeartbeats 8000000 in
set_option maxRecDepth 100000 in
theorem whispererlaw13_alive.calls (k : Nat)  (r : Bool) (w : World) (HTab_ : Go.Proofs.YtoeaidhkohfaoaaDoor.Hand.TabV w) (h : whispererlaw13_alive.f k  = some r) :
    Calls Tryd.prog 8 #[] w fun e w' => e = .returned (.bool r) ∧ Below w.heap.size w w' := by
  have hu23 := Tryd.underlying23
  have HB := Aside0.mk (Below.refl w.heap.size w)
  have H : ((Hand.view_Render.f k (⟨#[112, 119, 58, 32]⟩ : ByteArray) 1 0 3 1).bind fun bt101 => ((Hand.view_Render.f k (⟨#[112, 119, 58, 32]⟩ : ByteArray) 2 0 3 1).bind fun bt105 => (if bt101.2 = 0 then (if (strOfNums bt101.1).toList = ([13, 112, 119, 58, 32, 42, 42, 42, 27, 91, 75, 27, 91, 50, 68] : List UInt8) then (if bt105.2 = 0 then (some ((strOfNums bt105.1).toList == ([13, 112, 119, 58, 32, 42, 42, 42, 42, 42, 42, 42, 42, 27, 91, 75] : List UInt8))) else (some false)) else (some false)) else (some false)))) = some r := h
  clear h
  replace H := Option.bind_eq_some_iff.mp H
  obtain ⟨⟨t101, t104⟩, A10, H⟩ := H
  replace H : ((Hand.view_Render.f k (⟨#[112, 119, 58, 32]⟩ : ByteArray) 2 0 3 1).bind fun bt105 => (if t104 = 0 then (if (strOfNums t101).toList = ([13, 112, 119, 58, 32, 42, 42, 42, 27, 91, 75, 27, 91, 50, 68] : List UInt8) then (if bt105.2 = 0 then (some ((strOfNums bt105.1).toList == ([13, 112, 119, 58, 32, 42, 42, 42, 42, 42, 42, 42, 42, 27, 91, 75] : List UInt8))) else (some false)) else (some false)) else (some false))) = some r := H
  have A1 := Aside0.mk A10
  clear A10
  replace H := Option.bind_eq_some_iff.mp H
  obtain ⟨⟨t105, t108⟩, A20, H⟩ := H
  replace H : (if t104 = 0 then (if (strOfNums t101).toList = ([13, 112, 119, 58, 32, 42, 42, 42, 27, 91, 75, 27, 91, 50, 68] : List UInt8) then (if t108 = 0 then (some ((strOfNums t105).toList == ([13, 112, 119, 58, 32, 42, 42, 42, 42, 42, 42, 42, 42, 27, 91, 75] : List UInt8))) else (some false)) else (some false)) else (some false)) = some r := H
  have A2 := Aside0.mk A20
  clear A20
  by_cases c3 : t104 = 0
  · rw [if_pos c3] at H
    have c3b0 : (t104 == 0) = true := beq_iff_eq.mpr c3
    have c3b1 : (t104 != 0) = false := bne_eq_false_iff_eq.mpr c3
    clear c3
    by_cases c4 : (strOfNums t101).toList = ([13, 112, 119, 58, 32, 42, 42, 42, 27, 91, 75, 27, 91, 50, 68] : List UInt8)
    · rw [if_pos c4] at H
      have c4b0 : ((strOfNums t101).toList == ([13, 112, 119, 58, 32, 42, 42, 42, 27, 91, 75, 27, 91, 50, 68] : List UInt8)) = true := beq_iff_eq.mpr c4
      have c4b1 : ((strOfNums t101).toList != ([13, 112, 119, 58, 32, 42, 42, 42, 27, 91, 75, 27, 91, 50, 68] : List UInt8)) = false := bne_eq_false_iff_eq.mpr c4
      clear c4
      by_cases c5 : t108 = 0
      · rw [if_pos c5] at H
        have c5b0 : (t108 == 0) = true := beq_iff_eq.mpr c5
        have c5b1 : (t108 != 0) = false := bne_eq_false_iff_eq.mpr c5
        clear c5
        obtain rfl := Option.some.inj H
        go_enter Tryd.func8, Tryd.ntmps8
        go_wp2_with (first | ((with_reducible refine gate_callee (f := 9) rfl ?_); refine goesL_ (some 7) rfl rfl Tryd.func9 (by kernel_rfl) rfl #[.agg #[.string (⟨#[112, 119, 58, 32]⟩ : ByteArray), .int .i64 1, .int .i64 0], .int .i64 3, .int .i64 1] rfl (by (try simp only [List.map_toArray, List.map_cons, List.map_nil]); first | done | rfl | (simp only [List.length_drop, List.length_take]; rfl)) ?_; (with_reducible refine (Hand.view_Render.calls k (⟨#[112, 119, 58, 32]⟩ : ByteArray) 1 0 3 1 t101 t104 _ ?side1 A1.out).mono ?_); (case side1 => exact (Go.Proofs.YtoeaidhkohfaoaaDoor.Hand.TabV.below HTab_ (by repeat (first | (with_reducible first | exact HB.out | apply below_alloc | apply pw_below_drewN | apply below_drew1) | exact HB.out)))); rintro e w6 ⟨v102, rfl, ho0, hb⟩; refine ⟨_, rfl, ?_⟩; have n0_ := Aside0.mk (Kd.R_lower ho0 (below_size (by repeat (first | (with_reducible first | exact HB.out | apply below_alloc | apply pw_below_drewN | apply below_drew1) | exact HB.out)))); have n1_ := Aside0.mk (below_step (by repeat (first | (with_reducible first | exact HB.out | apply below_alloc | apply pw_below_drewN | apply below_drew1) | exact HB.out)) hb); clear HB; have HO103 := n0_; have HB := n1_; clear n0_ n1_; (try clear hb); (try clear hb2); (try clear hk); (try clear hi); (try clear ho0)) | ((with_reducible refine gate_callee (f := 9) rfl ?_); refine goesL_ (some 12) rfl rfl Tryd.func9 (by kernel_rfl) rfl #[.agg #[.string (⟨#[112, 119, 58, 32]⟩ : ByteArray), .int .i64 2, .int .i64 0], .int .i64 3, .int .i64 1] rfl (by (try simp only [List.map_toArray, List.map_cons, List.map_nil]); first | done | rfl | (simp only [List.length_drop, List.length_take]; rfl)) ?_; (with_reducible refine (Hand.view_Render.calls k (⟨#[112, 119, 58, 32]⟩ : ByteArray) 2 0 3 1 t105 t108 _ ?side1 A2.out).mono ?_); (case side1 => exact (Go.Proofs.YtoeaidhkohfaoaaDoor.Hand.TabV.below HTab_ (by repeat (first | (with_reducible first | exact HB.out | apply below_alloc | apply pw_below_drewN | apply below_drew1) | exact HB.out)))); rintro e w7 ⟨v106, rfl, ho0, hb⟩; refine ⟨_, rfl, ?_⟩; have n0_ := Aside0.mk (Kd.R_elder' (by (with_reducible repeat (first | apply Kd.R_alloc | apply Kd.R_drewN | apply Kd.R_drew)); exact HO103.out) (Kd.R_base ho0) hb); have n1_ := Aside0.mk (Kd.R_lower (Kd.R_new' ho0 (Kd.R_lt (by (with_reducible repeat (first | apply Kd.R_alloc | apply Kd.R_drewN | apply Kd.R_drew)); exact HO103.out))) (below_size (by repeat (first | (with_reducible first | exact HB.out | apply below_alloc | apply pw_below_drewN | apply below_drew1) | exact HB.out)))); have n2_ := Aside0.mk (below_step (by repeat (first | (with_reducible first | exact HB.out | apply below_alloc | apply pw_below_drewN | apply below_drew1) | exact HB.out)) hb); clear HO103; clear HB; have HO103 := n0_; have HO107 := n1_; have HB := n2_; clear n0_ n1_ n2_; (try clear hb); (try clear hb2); (try clear hk); (try clear hi); (try clear ho0); have hcv8 := own_string (P := Tryd.prog) Tryd.underlying25 Tryd.underlying5 Tryd.underlying9 (Kd.own_of_R HO103.out); have hcv9 := own_string (P := Tryd.prog) Tryd.underlying25 Tryd.underlying5 Tryd.underlying9 (Kd.own_of_R HO107.out)))
        go_ret
        exact ⟨by first | rfl | (simp [errW_none, errW_some] <;> rfl) | (simp [*, errW_none, errW_some] <;> rfl), by repeat (first | (with_reducible first | exact HB.out | apply below_alloc | apply pw_below_drewN | apply below_drew1) | exact HB.out)⟩
      · rw [if_neg c5] at H
        have c5b0 : (t108 == 0) = false := beq_eq_false_iff_ne.mpr c5
        have c5b1 : (t108 != 0) = true := bne_iff_ne.mpr c5
        obtain rfl := Option.some.inj H
        go_enter Tryd.func8, Tryd.ntmps8
        go_wp2_with (first | ((with_reducible refine gate_callee (f := 9) rfl ?_); refine goesL_ (some 7) rfl rfl Tryd.func9 (by kernel_rfl) rfl #[.agg #[.string (⟨#[112, 119, 58, 32]⟩ : ByteArray), .int .i64 1, .int .i64 0], .int .i64 3, .int .i64 1] rfl (by (try simp only [List.map_toArray, List.map_cons, List.map_nil]); first | done | rfl | (simp only [List.length_drop, List.length_take]; rfl)) ?_; (with_reducible refine (Hand.view_Render.calls k (⟨#[112, 119, 58, 32]⟩ : ByteArray) 1 0 3 1 t101 t104 _ ?side1 A1.out).mono ?_); (case side1 => exact (Go.Proofs.YtoeaidhkohfaoaaDoor.Hand.TabV.below HTab_ (by repeat (first | (with_reducible first | exact HB.out | apply below_alloc | apply pw_below_drewN | apply below_drew1) | exact HB.out)))); rintro e w10 ⟨v102, rfl, ho0, hb⟩; refine ⟨_, rfl, ?_⟩; have n0_ := Aside0.mk (Kd.R_lower ho0 (below_size (by repeat (first | (with_reducible first | exact HB.out | apply below_alloc | apply pw_below_drewN | apply below_drew1) | exact HB.out)))); have n1_ := Aside0.mk (below_step (by repeat (first | (with_reducible first | exact HB.out | apply below_alloc | apply pw_below_drewN | apply below_drew1) | exact HB.out)) hb); clear HB; have HO103 := n0_; have HB := n1_; clear n0_ n1_; (try clear hb); (try clear hb2); (try clear hk); (try clear hi); (try clear ho0)) | ((with_reducible refine gate_callee (f := 9) rfl ?_); refine goesL_ (some 12) rfl rfl Tryd.func9 (by kernel_rfl) rfl #[.agg #[.string (⟨#[112, 119, 58, 32]⟩ : ByteArray), .int .i64 2, .int .i64 0], .int .i64 3, .int .i64 1] rfl (by (try simp only [List.map_toArray, List.map_cons, List.map_nil]); first | done | rfl | (simp only [List.length_drop, List.length_take]; rfl)) ?_; (with_reducible refine (Hand.view_Render.calls k (⟨#[112, 119, 58, 32]⟩ : ByteArray) 2 0 3 1 t105 t108 _ ?side1 A2.out).mono ?_); (case side1 => exact (Go.Proofs.YtoeaidhkohfaoaaDoor.Hand.TabV.below HTab_ (by repeat (first | (with_reducible first | exact HB.out | apply below_alloc | apply pw_below_drewN | apply below_drew1) | exact HB.out)))); rintro e w11 ⟨v106, rfl, ho0, hb⟩; refine ⟨_, rfl, ?_⟩; have n0_ := Aside0.mk (Kd.R_elder' (by (with_reducible repeat (first | apply Kd.R_alloc | apply Kd.R_drewN | apply Kd.R_drew)); exact HO103.out) (Kd.R_base ho0) hb); have n1_ := Aside0.mk (Kd.R_lower (Kd.R_new' ho0 (Kd.R_lt (by (with_reducible repeat (first | apply Kd.R_alloc | apply Kd.R_drewN | apply Kd.R_drew)); exact HO103.out))) (below_size (by repeat (first | (with_reducible first | exact HB.out | apply below_alloc | apply pw_below_drewN | apply below_drew1) | exact HB.out)))); have n2_ := Aside0.mk (below_step (by repeat (first | (with_reducible first | exact HB.out | apply below_alloc | apply pw_below_drewN | apply below_drew1) | exact HB.out)) hb); clear HO103; clear HB; have HO103 := n0_; have HO107 := n1_; have HB := n2_; clear n0_ n1_ n2_; (try clear hb); (try clear hb2); (try clear hk); (try clear hi); (try clear ho0); have hcv12 := own_string (P := Tryd.prog) Tryd.underlying25 Tryd.underlying5 Tryd.underlying9 (Kd.own_of_R HO103.out)))
        go_ret
        exact ⟨by first | rfl | (simp [errW_none, errW_some] <;> rfl) | (simp [*, errW_none, errW_some] <;> rfl), by repeat (first | (with_reducible first | exact HB.out | apply below_alloc | apply pw_below_drewN | apply below_drew1) | exact HB.out)⟩
    · rw [if_neg c4] at H
      have c4b0 : ((strOfNums t101).toList == ([13, 112, 119, 58, 32, 42, 42, 42, 27, 91, 75, 27, 91, 50, 68] : List UInt8)) = false := beq_eq_false_iff_ne.mpr c4
      have c4b1 : ((strOfNums t101).toList != ([13, 112, 119, 58, 32, 42, 42, 42, 27, 91, 75, 27, 91, 50, 68] : List UInt8)) = true := bne_iff_ne.mpr c4
      obtain rfl := Option.some.inj H
      go_enter Tryd.func8, Tryd.ntmps8
      go_wp2_with (first | ((with_reducible refine gate_callee (f := 9) rfl ?_); refine goesL_ (some 7) rfl rfl Tryd.func9 (by kernel_rfl) rfl #[.agg #[.string (⟨#[112, 119, 58, 32]⟩ : ByteArray), .int .i64 1, .int .i64 0], .int .i64 3, .int .i64 1] rfl (by (try simp only [List.map_toArray, List.map_cons, List.map_nil]); first | done | rfl | (simp only [List.length_drop, List.length_take]; rfl)) ?_; (with_reducible refine (Hand.view_Render.calls k (⟨#[112, 119, 58, 32]⟩ : ByteArray) 1 0 3 1 t101 t104 _ ?side1 A1.out).mono ?_); (case side1 => exact (Go.Proofs.YtoeaidhkohfaoaaDoor.Hand.TabV.below HTab_ (by repeat (first | (with_reducible first | exact HB.out | apply below_alloc | apply pw_below_drewN | apply below_drew1) | exact HB.out)))); rintro e w13 ⟨v102, rfl, ho0, hb⟩; refine ⟨_, rfl, ?_⟩; have n0_ := Aside0.mk (Kd.R_lower ho0 (below_size (by repeat (first | (with_reducible first | exact HB.out | apply below_alloc | apply pw_below_drewN | apply below_drew1) | exact HB.out)))); have n1_ := Aside0.mk (below_step (by repeat (first | (with_reducible first | exact HB.out | apply below_alloc | apply pw_below_drewN | apply below_drew1) | exact HB.out)) hb); clear HB; have HO103 := n0_; have HB := n1_; clear n0_ n1_; (try clear hb); (try clear hb2); (try clear hk); (try clear hi); (try clear ho0)) | ((with_reducible refine gate_callee (f := 9) rfl ?_); refine goesL_ (some 12) rfl rfl Tryd.func9 (by kernel_rfl) rfl #[.agg #[.string (⟨#[112, 119, 58, 32]⟩ : ByteArray), .int .i64 2, .int .i64 0], .int .i64 3, .int .i64 1] rfl (by (try simp only [List.map_toArray, List.map_cons, List.map_nil]); first | done | rfl | (simp only [List.length_drop, List.length_take]; rfl)) ?_; (with_reducible refine (Hand.view_Render.calls k (⟨#[112, 119, 58, 32]⟩ : ByteArray) 2 0 3 1 t105 t108 _ ?side1 A2.out).mono ?_); (case side1 => exact (Go.Proofs.YtoeaidhkohfaoaaDoor.Hand.TabV.below HTab_ (by repeat (first | (with_reducible first | exact HB.out | apply below_alloc | apply pw_below_drewN | apply below_drew1) | exact HB.out)))); rintro e w14 ⟨v106, rfl, ho0, hb⟩; refine ⟨_, rfl, ?_⟩; have n0_ := Aside0.mk (Kd.R_elder' (by (with_reducible repeat (first | apply Kd.R_alloc | apply Kd.R_drewN | apply Kd.R_drew)); exact HO103.out) (Kd.R_base ho0) hb); have n1_ := Aside0.mk (Kd.R_lower (Kd.R_new' ho0 (Kd.R_lt (by (with_reducible repeat (first | apply Kd.R_alloc | apply Kd.R_drewN | apply Kd.R_drew)); exact HO103.out))) (below_size (by repeat (first | (with_reducible first | exact HB.out | apply below_alloc | apply pw_below_drewN | apply below_drew1) | exact HB.out)))); have n2_ := Aside0.mk (below_step (by repeat (first | (with_reducible first | exact HB.out | apply below_alloc | apply pw_below_drewN | apply below_drew1) | exact HB.out)) hb); clear HO103; clear HB; have HO103 := n0_; have HO107 := n1_; have HB := n2_; clear n0_ n1_ n2_; (try clear hb); (try clear hb2); (try clear hk); (try clear hi); (try clear ho0); have hcv15 := own_string (P := Tryd.prog) Tryd.underlying25 Tryd.underlying5 Tryd.underlying9 (Kd.own_of_R HO103.out)))
      go_ret
      exact ⟨by first | rfl | (simp [errW_none, errW_some] <;> rfl) | (simp [*, errW_none, errW_some] <;> rfl), by repeat (first | (with_reducible first | exact HB.out | apply below_alloc | apply pw_below_drewN | apply below_drew1) | exact HB.out)⟩
  · rw [if_neg c3] at H
    have c3b0 : (t104 == 0) = false := beq_eq_false_iff_ne.mpr c3
    have c3b1 : (t104 != 0) = true := bne_iff_ne.mpr c3
    obtain rfl := Option.some.inj H
    go_enter Tryd.func8, Tryd.ntmps8
    go_wp2_with (first | ((with_reducible refine gate_callee (f := 9) rfl ?_); refine goesL_ (some 7) rfl rfl Tryd.func9 (by kernel_rfl) rfl #[.agg #[.string (⟨#[112, 119, 58, 32]⟩ : ByteArray), .int .i64 1, .int .i64 0], .int .i64 3, .int .i64 1] rfl (by (try simp only [List.map_toArray, List.map_cons, List.map_nil]); first | done | rfl | (simp only [List.length_drop, List.length_take]; rfl)) ?_; (with_reducible refine (Hand.view_Render.calls k (⟨#[112, 119, 58, 32]⟩ : ByteArray) 1 0 3 1 t101 t104 _ ?side1 A1.out).mono ?_); (case side1 => exact (Go.Proofs.YtoeaidhkohfaoaaDoor.Hand.TabV.below HTab_ (by repeat (first | (with_reducible first | exact HB.out | apply below_alloc | apply pw_below_drewN | apply below_drew1) | exact HB.out)))); rintro e w16 ⟨v102, rfl, ho0, hb⟩; refine ⟨_, rfl, ?_⟩; have n0_ := Aside0.mk (Kd.R_lower ho0 (below_size (by repeat (first | (with_reducible first | exact HB.out | apply below_alloc | apply pw_below_drewN | apply below_drew1) | exact HB.out)))); have n1_ := Aside0.mk (below_step (by repeat (first | (with_reducible first | exact HB.out | apply below_alloc | apply pw_below_drewN | apply below_drew1) | exact HB.out)) hb); clear HB; have HO103 := n0_; have HB := n1_; clear n0_ n1_; (try clear hb); (try clear hb2); (try clear hk); (try clear hi); (try clear ho0)) | ((with_reducible refine gate_callee (f := 9) rfl ?_); refine goesL_ (some 12) rfl rfl Tryd.func9 (by kernel_rfl) rfl #[.agg #[.string (⟨#[112, 119, 58, 32]⟩ : ByteArray), .int .i64 2, .int .i64 0], .int .i64 3, .int .i64 1] rfl (by (try simp only [List.map_toArray, List.map_cons, List.map_nil]); first | done | rfl | (simp only [List.length_drop, List.length_take]; rfl)) ?_; (with_reducible refine (Hand.view_Render.calls k (⟨#[112, 119, 58, 32]⟩ : ByteArray) 2 0 3 1 t105 t108 _ ?side1 A2.out).mono ?_); (case side1 => exact (Go.Proofs.YtoeaidhkohfaoaaDoor.Hand.TabV.below HTab_ (by repeat (first | (with_reducible first | exact HB.out | apply below_alloc | apply pw_below_drewN | apply below_drew1) | exact HB.out)))); rintro e w17 ⟨v106, rfl, ho0, hb⟩; refine ⟨_, rfl, ?_⟩; have n0_ := Aside0.mk (Kd.R_elder' (by (with_reducible repeat (first | apply Kd.R_alloc | apply Kd.R_drewN | apply Kd.R_drew)); exact HO103.out) (Kd.R_base ho0) hb); have n1_ := Aside0.mk (Kd.R_lower (Kd.R_new' ho0 (Kd.R_lt (by (with_reducible repeat (first | apply Kd.R_alloc | apply Kd.R_drewN | apply Kd.R_drew)); exact HO103.out))) (below_size (by repeat (first | (with_reducible first | exact HB.out | apply below_alloc | apply pw_below_drewN | apply below_drew1) | exact HB.out)))); have n2_ := Aside0.mk (below_step (by repeat (first | (with_reducible first | exact HB.out | apply below_alloc | apply pw_below_drewN | apply below_drew1) | exact HB.out)) hb); clear HO103; clear HB; have HO103 := n0_; have HO107 := n1_; have HB := n2_; clear n0_ n1_ n2_; (try clear hb); (try clear hb2); (try clear hk); (try clear hi); (try clear ho0)))
    go_ret
    exact ⟨by first | rfl | (simp [errW_none, errW_some] <;> rfl) | (simp [*, errW_none, errW_some] <;> rfl), by repeat (first | (with_reducible first | exact HB.out | apply below_alloc | apply pw_below_drewN | apply below_drew1) | exact HB.out)⟩

-- BY HAND: function 13 (view_Stars)

-- BY HAND: function 15 (view_Place)

/-! ### whispererlaw13_ViewPlaces: function 5 -/
mutual
def whispererlaw13_ViewPlaces.j0 : Nat → Int → Int → Int → Int → Int → Bool → Option (Bool)
  | 0, _, _, _, _, _, _ => none
  | k + 1, x7, x8, x9, x10, x11, x53 => if x53 = true then (some false) else (if x9 = 1 then (if x10 = x7 then (if x11 = x8 then (if x9 = 0 then (whispererlaw13_ViewPlaces.j1 k x7 x9 (x10 != 0)) else (whispererlaw13_ViewPlaces.j1 k x7 x9 false)) else (whispererlaw13_ViewPlaces.j1 k x7 x9 true)) else (whispererlaw13_ViewPlaces.j1 k x7 x9 true)) else (if x9 = 0 then (whispererlaw13_ViewPlaces.j1 k x7 x9 (x10 != 0)) else (whispererlaw13_ViewPlaces.j1 k x7 x9 false)))
def whispererlaw13_ViewPlaces.j1 : Nat → Int → Int → Bool → Option (Bool)
  | 0, _, _, _ => none
  | k + 1, x7, x9, x73 => if x73 = true then (some false) else ((whispererlaw13_alive.f k).bind fun t111 => (if t111 = true then ((Hand.view_Stars.f 3 x7).bind fun t112 => (if t112 = 0 then ((Hand.view_Stars.f (-1) x7).bind fun t113 => (if t113 = 0 then ((Hand.view_Stars.f x9 1025).bind fun t114 => (if t114 = 0 then ((Hand.view_Place.f x9 x7 (wrap64 (x7 + 1))).bind fun t115 => (some (t115 == 0))) else (some false))) else (some false))) else (some false))) else (some false)))
end
def whispererlaw13_ViewPlaces.f (k : Nat) (a0 : Int) (a1 : Int) (a2 : Int) : Option (Bool) := if (wrap64 ((Int.tmod (wrap64 (a1)) 1025) + 1)) = 0 then (none) else ((Hand.view_Stars.f (wrap64 (Int.tmod a0 3)) (Int.tmod (wrap64 (a1)) 1025)).bind fun t109 => ((Hand.view_Place.f (wrap64 (Int.tmod a0 3)) (Int.tmod (wrap64 (a1)) 1025) (Int.tmod (wrap64 (a2)) (wrap64 ((Int.tmod (wrap64 (a1)) 1025) + 1)))).bind fun t110 => (if t110 < 0 then (whispererlaw13_ViewPlaces.j0 k (Int.tmod (wrap64 (a1)) 1025) (Int.tmod (wrap64 (a2)) (wrap64 ((Int.tmod (wrap64 (a1)) 1025) + 1))) (wrap64 (Int.tmod a0 3)) t109 t110 true) else (if t110 > t109 then (whispererlaw13_ViewPlaces.j0 k (Int.tmod (wrap64 (a1)) 1025) (Int.tmod (wrap64 (a2)) (wrap64 ((Int.tmod (wrap64 (a1)) 1025) + 1))) (wrap64 (Int.tmod a0 3)) t109 t110 true) else (if t109 > (Int.tmod (wrap64 (a1)) 1025) then (if t109 = 8 then (if (Int.tmod (wrap64 (a1)) 1025) = 0 then (whispererlaw13_ViewPlaces.j0 k (Int.tmod (wrap64 (a1)) 1025) (Int.tmod (wrap64 (a2)) (wrap64 ((Int.tmod (wrap64 (a1)) 1025) + 1))) (wrap64 (Int.tmod a0 3)) t109 t110 (t109 != 0)) else (whispererlaw13_ViewPlaces.j0 k (Int.tmod (wrap64 (a1)) 1025) (Int.tmod (wrap64 (a2)) (wrap64 ((Int.tmod (wrap64 (a1)) 1025) + 1))) (wrap64 (Int.tmod a0 3)) t109 t110 false)) else (whispererlaw13_ViewPlaces.j0 k (Int.tmod (wrap64 (a1)) 1025) (Int.tmod (wrap64 (a2)) (wrap64 ((Int.tmod (wrap64 (a1)) 1025) + 1))) (wrap64 (Int.tmod a0 3)) t109 t110 true)) else (if (Int.tmod (wrap64 (a1)) 1025) = 0 then (whispererlaw13_ViewPlaces.j0 k (Int.tmod (wrap64 (a1)) 1025) (Int.tmod (wrap64 (a2)) (wrap64 ((Int.tmod (wrap64 (a1)) 1025) + 1))) (wrap64 (Int.tmod a0 3)) t109 t110 (t109 != 0)) else (whispererlaw13_ViewPlaces.j0 k (Int.tmod (wrap64 (a1)) 1025) (Int.tmod (wrap64 (a2)) (wrap64 ((Int.tmod (wrap64 (a1)) 1025) + 1))) (wrap64 (Int.tmod a0 3)) t109 t110 false)))))))
theorem whispererlaw13_ViewPlaces.mono_l : ∀ k, (∀ y0 y1 y2 y3 y4 y5, LeO (whispererlaw13_ViewPlaces.j0 k y0 y1 y2 y3 y4 y5) (whispererlaw13_ViewPlaces.j0 (k + 1) y0 y1 y2 y3 y4 y5)) ∧ (∀ y0 y1 y2, LeO (whispererlaw13_ViewPlaces.j1 k y0 y1 y2) (whispererlaw13_ViewPlaces.j1 (k + 1) y0 y1 y2))
  | 0 => ⟨fun _ _ _ _ _ _ r h => by simp [whispererlaw13_ViewPlaces.j0] at h, fun _ _ _ r h => by simp [whispererlaw13_ViewPlaces.j1] at h⟩
  | k + 1 => by
    obtain ⟨ih0, ih1⟩ := whispererlaw13_ViewPlaces.mono_l k
    refine ⟨?_, ?_⟩
    · intro y0 y1 y2 y3 y4 y5
      unfold whispererlaw13_ViewPlaces.j0
      repeat' first
      | (with_reducible exact ih0 _ _ _ _ _ _)
      | (with_reducible exact ih1 _ _ _)
      | (with_reducible exact whispererlaw13_alive.mono _)
      | (with_reducible exact LeO.refl _)
      | (with_reducible exact LeO.none _)
      | (with_reducible refine LeO.ite ?_ ?_)
      | (with_reducible refine LeO.bind ?_ (fun _ => ?_))
      | exact ih0 _ _ _ _ _ _
      | exact ih1 _ _ _
      | exact whispererlaw13_alive.mono _
      | exact LeO.none _
      | refine LeO.ite ?_ ?_
      | refine LeO.bind ?_ (fun _ => ?_)
    · intro y0 y1 y2
      unfold whispererlaw13_ViewPlaces.j1
      repeat' first
      | (with_reducible exact ih0 _ _ _ _ _ _)
      | (with_reducible exact ih1 _ _ _)
      | (with_reducible exact whispererlaw13_alive.mono _)
      | (with_reducible exact LeO.refl _)
      | (with_reducible exact LeO.none _)
      | (with_reducible refine LeO.ite ?_ ?_)
      | (with_reducible refine LeO.bind ?_ (fun _ => ?_))
      | exact ih0 _ _ _ _ _ _
      | exact ih1 _ _ _
      | exact whispererlaw13_alive.mono _
      | exact LeO.none _
      | refine LeO.ite ?_ ?_
      | refine LeO.bind ?_ (fun _ => ?_)
theorem whispererlaw13_ViewPlaces.mono : ∀ a0 a1 a2 k, LeO (whispererlaw13_ViewPlaces.f k a0 a1 a2) (whispererlaw13_ViewPlaces.f (k + 1) a0 a1 a2) := by
  intro a0 a1 a2 k
  obtain ⟨ih0, ih1⟩ := whispererlaw13_ViewPlaces.mono_l k
  unfold whispererlaw13_ViewPlaces.f
  repeat' first
      | (with_reducible exact ih0 _ _ _ _ _ _)
      | (with_reducible exact ih1 _ _ _)
      | (with_reducible exact whispererlaw13_alive.mono _)
      | (with_reducible exact LeO.refl _)
      | (with_reducible exact LeO.none _)
      | (with_reducible refine LeO.ite ?_ ?_)
      | (with_reducible refine LeO.bind ?_ (fun _ => ?_))
      | exact ih0 _ _ _ _ _ _
      | exact ih1 _ _ _
      | exact whispererlaw13_alive.mono _
      | exact LeO.none _
      | refine LeO.ite ?_ ?_
      | refine LeO.bind ?_ (fun _ => ?_)
set_option maxHeartbeats 8000000 in
set_option maxRecDepth 100000 in
theorem whispererlaw13_ViewPlaces.calls (k : Nat) (a0 : Int) (a1 : Int) (a2 : Int) (r : Bool) (w : World) (HTab_ : Go.Proofs.YtoeaidhkohfaoaaDoor.Hand.TabV w) (h : whispererlaw13_ViewPlaces.f k a0 a1 a2 = some r) :
    Calls Tryd.prog 5 #[.int .u8 a0, .int .u16 a1, .int .u16 a2] w fun e w' => e = .returned (.bool r) ∧ Below w.heap.size w w' := by
  have HB := Aside0.mk (Below.refl w.heap.size w)
  have H : (if (wrap64 ((Int.tmod (wrap64 (a1)) 1025) + 1)) = 0 then (none) else ((Hand.view_Stars.f (wrap64 (Int.tmod a0 3)) (Int.tmod (wrap64 (a1)) 1025)).bind fun t109 => ((Hand.view_Place.f (wrap64 (Int.tmod a0 3)) (Int.tmod (wrap64 (a1)) 1025) (Int.tmod (wrap64 (a2)) (wrap64 ((Int.tmod (wrap64 (a1)) 1025) + 1)))).bind fun t110 => (if t110 < 0 then (whispererlaw13_ViewPlaces.j0 k (Int.tmod (wrap64 (a1)) 1025) (Int.tmod (wrap64 (a2)) (wrap64 ((Int.tmod (wrap64 (a1)) 1025) + 1))) (wrap64 (Int.tmod a0 3)) t109 t110 true) else (if t110 > t109 then (whispererlaw13_ViewPlaces.j0 k (Int.tmod (wrap64 (a1)) 1025) (Int.tmod (wrap64 (a2)) (wrap64 ((Int.tmod (wrap64 (a1)) 1025) + 1))) (wrap64 (Int.tmod a0 3)) t109 t110 true) else (if t109 > (Int.tmod (wrap64 (a1)) 1025) then (if t109 = 8 then (if (Int.tmod (wrap64 (a1)) 1025) = 0 then (whispererlaw13_ViewPlaces.j0 k (Int.tmod (wrap64 (a1)) 1025) (Int.tmod (wrap64 (a2)) (wrap64 ((Int.tmod (wrap64 (a1)) 1025) + 1))) (wrap64 (Int.tmod a0 3)) t109 t110 (t109 != 0)) else (whispererlaw13_ViewPlaces.j0 k (Int.tmod (wrap64 (a1)) 1025) (Int.tmod (wrap64 (a2)) (wrap64 ((Int.tmod (wrap64 (a1)) 1025) + 1))) (wrap64 (Int.tmod a0 3)) t109 t110 false)) else (whispererlaw13_ViewPlaces.j0 k (Int.tmod (wrap64 (a1)) 1025) (Int.tmod (wrap64 (a2)) (wrap64 ((Int.tmod (wrap64 (a1)) 1025) + 1))) (wrap64 (Int.tmod a0 3)) t109 t110 true)) else (if (Int.tmod (wrap64 (a1)) 1025) = 0 then (whispererlaw13_ViewPlaces.j0 k (Int.tmod (wrap64 (a1)) 1025) (Int.tmod (wrap64 (a2)) (wrap64 ((Int.tmod (wrap64 (a1)) 1025) + 1))) (wrap64 (Int.tmod a0 3)) t109 t110 (t109 != 0)) else (whispererlaw13_ViewPlaces.j0 k (Int.tmod (wrap64 (a1)) 1025) (Int.tmod (wrap64 (a2)) (wrap64 ((Int.tmod (wrap64 (a1)) 1025) + 1))) (wrap64 (Int.tmod a0 3)) t109 t110 false)))))))) = some r := h
  clear h
  by_cases c4 : (wrap64 ((Int.tmod (wrap64 (a1)) 1025) + 1)) = 0
  · rw [if_pos c4] at H
    exact absurd H (by simp)
  · rw [if_neg c4] at H
    have c4b0 : ((wrap64 ((Int.tmod (wrap64 (a1)) 1025) + 1)) == 0) = false := beq_eq_false_iff_ne.mpr c4
    have c4b1 : ((wrap64 ((Int.tmod (wrap64 (a1)) 1025) + 1)) != 0) = true := bne_iff_ne.mpr c4
    replace H := Option.bind_eq_some_iff.mp H
    obtain ⟨t109, A50, H⟩ := H
    replace H : ((Hand.view_Place.f (wrap64 (Int.tmod a0 3)) (Int.tmod (wrap64 (a1)) 1025) (Int.tmod (wrap64 (a2)) (wrap64 ((Int.tmod (wrap64 (a1)) 1025) + 1)))).bind fun t110 => (if t110 < 0 then (whispererlaw13_ViewPlaces.j0 k (Int.tmod (wrap64 (a1)) 1025) (Int.tmod (wrap64 (a2)) (wrap64 ((Int.tmod (wrap64 (a1)) 1025) + 1))) (wrap64 (Int.tmod a0 3)) t109 t110 true) else (if t110 > t109 then (whispererlaw13_ViewPlaces.j0 k (Int.tmod (wrap64 (a1)) 1025) (Int.tmod (wrap64 (a2)) (wrap64 ((Int.tmod (wrap64 (a1)) 1025) + 1))) (wrap64 (Int.tmod a0 3)) t109 t110 true) else (if t109 > (Int.tmod (wrap64 (a1)) 1025) then (if t109 = 8 then (if (Int.tmod (wrap64 (a1)) 1025) = 0 then (whispererlaw13_ViewPlaces.j0 k (Int.tmod (wrap64 (a1)) 1025) (Int.tmod (wrap64 (a2)) (wrap64 ((Int.tmod (wrap64 (a1)) 1025) + 1))) (wrap64 (Int.tmod a0 3)) t109 t110 (t109 != 0)) else (whispererlaw13_ViewPlaces.j0 k (Int.tmod (wrap64 (a1)) 1025) (Int.tmod (wrap64 (a2)) (wrap64 ((Int.tmod (wrap64 (a1)) 1025) + 1))) (wrap64 (Int.tmod a0 3)) t109 t110 false)) else (whispererlaw13_ViewPlaces.j0 k (Int.tmod (wrap64 (a1)) 1025) (Int.tmod (wrap64 (a2)) (wrap64 ((Int.tmod (wrap64 (a1)) 1025) + 1))) (wrap64 (Int.tmod a0 3)) t109 t110 true)) else (if (Int.tmod (wrap64 (a1)) 1025) = 0 then (whispererlaw13_ViewPlaces.j0 k (Int.tmod (wrap64 (a1)) 1025) (Int.tmod (wrap64 (a2)) (wrap64 ((Int.tmod (wrap64 (a1)) 1025) + 1))) (wrap64 (Int.tmod a0 3)) t109 t110 (t109 != 0)) else (whispererlaw13_ViewPlaces.j0 k (Int.tmod (wrap64 (a1)) 1025) (Int.tmod (wrap64 (a2)) (wrap64 ((Int.tmod (wrap64 (a1)) 1025) + 1))) (wrap64 (Int.tmod a0 3)) t109 t110 false)))))) = some r := H
    have A5 := Aside0.mk A50
    clear A50
    replace H := Option.bind_eq_some_iff.mp H
    obtain ⟨t110, A60, H⟩ := H
    replace H : (if t110 < 0 then (whispererlaw13_ViewPlaces.j0 k (Int.tmod (wrap64 (a1)) 1025) (Int.tmod (wrap64 (a2)) (wrap64 ((Int.tmod (wrap64 (a1)) 1025) + 1))) (wrap64 (Int.tmod a0 3)) t109 t110 true) else (if t110 > t109 then (whispererlaw13_ViewPlaces.j0 k (Int.tmod (wrap64 (a1)) 1025) (Int.tmod (wrap64 (a2)) (wrap64 ((Int.tmod (wrap64 (a1)) 1025) + 1))) (wrap64 (Int.tmod a0 3)) t109 t110 true) else (if t109 > (Int.tmod (wrap64 (a1)) 1025) then (if t109 = 8 then (if (Int.tmod (wrap64 (a1)) 1025) = 0 then (whispererlaw13_ViewPlaces.j0 k (Int.tmod (wrap64 (a1)) 1025) (Int.tmod (wrap64 (a2)) (wrap64 ((Int.tmod (wrap64 (a1)) 1025) + 1))) (wrap64 (Int.tmod a0 3)) t109 t110 (t109 != 0)) else (whispererlaw13_ViewPlaces.j0 k (Int.tmod (wrap64 (a1)) 1025) (Int.tmod (wrap64 (a2)) (wrap64 ((Int.tmod (wrap64 (a1)) 1025) + 1))) (wrap64 (Int.tmod a0 3)) t109 t110 false)) else (whispererlaw13_ViewPlaces.j0 k (Int.tmod (wrap64 (a1)) 1025) (Int.tmod (wrap64 (a2)) (wrap64 ((Int.tmod (wrap64 (a1)) 1025) + 1))) (wrap64 (Int.tmod a0 3)) t109 t110 true)) else (if (Int.tmod (wrap64 (a1)) 1025) = 0 then (whispererlaw13_ViewPlaces.j0 k (Int.tmod (wrap64 (a1)) 1025) (Int.tmod (wrap64 (a2)) (wrap64 ((Int.tmod (wrap64 (a1)) 1025) + 1))) (wrap64 (Int.tmod a0 3)) t109 t110 (t109 != 0)) else (whispererlaw13_ViewPlaces.j0 k (Int.tmod (wrap64 (a1)) 1025) (Int.tmod (wrap64 (a2)) (wrap64 ((Int.tmod (wrap64 (a1)) 1025) + 1))) (wrap64 (Int.tmod a0 3)) t109 t110 false))))) = some r := H
    have A6 := Aside0.mk A60
    clear A60
    have HC7 := Aside0.mk H
    clear H
    go_enter Tryd.func5, Tryd.ntmps5
    go_upto_region 5 with (first | ((with_reducible refine gate_callee (f := 13) rfl ?_); refine goesL_ (some 25) rfl rfl Tryd.func13 (by kernel_rfl) rfl #[.int .i64 (wrap64 (Int.tmod a0 3)), .int .i64 (Int.tmod (wrap64 (a1)) 1025)] rfl (by (try simp only [List.map_toArray, List.map_cons, List.map_nil]); first | done | rfl | (simp only [List.length_drop, List.length_take]; rfl)) ?_; (with_reducible refine (Hand.view_Stars.calls (wrap64 (Int.tmod a0 3)) (Int.tmod (wrap64 (a1)) 1025) t109 _ A5.out).mono ?_); rintro e w8 ⟨rfl, hb⟩; refine ⟨_, rfl, ?_⟩; have n0_ := Aside0.mk (below_step (by repeat (first | (with_reducible first | exact HB.out | apply below_alloc | apply pw_below_drewN | apply below_drew1) | exact HB.out)) hb); clear HB; have HB := n0_; clear n0_; (try clear hb); (try clear hb2); (try clear hk); (try clear hi)) | ((with_reducible refine gate_callee (f := 15) rfl ?_); refine goesL_ (some 29) rfl rfl Tryd.func15 (by kernel_rfl) rfl #[.int .i64 (wrap64 (Int.tmod a0 3)), .int .i64 (Int.tmod (wrap64 (a1)) 1025), .int .i64 (Int.tmod (wrap64 (a2)) (wrap64 ((Int.tmod (wrap64 (a1)) 1025) + 1)))] rfl (by (try simp only [List.map_toArray, List.map_cons, List.map_nil]); first | done | rfl | (simp only [List.length_drop, List.length_take]; rfl)) ?_; (with_reducible refine (Hand.view_Place.calls (wrap64 (Int.tmod a0 3)) (Int.tmod (wrap64 (a1)) 1025) (Int.tmod (wrap64 (a2)) (wrap64 ((Int.tmod (wrap64 (a1)) 1025) + 1))) t110 _ A6.out).mono ?_); rintro e w9 ⟨rfl, hb⟩; refine ⟨_, rfl, ?_⟩; have n0_ := Aside0.mk (below_step (by repeat (first | (with_reducible first | exact HB.out | apply below_alloc | apply pw_below_drewN | apply below_drew1) | exact HB.out)) hb); clear HB; have HB := n0_; clear n0_; (try clear hb); (try clear hb2); (try clear hk); (try clear hi)))
    (try simp only [Act.put, List.setIfInBounds_toArray, List.set_cons_zero, List.set_cons_succ])
    go_cut [53] (fun v53 wc => ∃ (kq : Nat) (x53_6 : Bool), v53 = .bool x53_6 ∧ Aside0 (whispererlaw13_ViewPlaces.j0 kq (Int.tmod (wrap64 (a1)) 1025) (Int.tmod (wrap64 (a2)) (wrap64 ((Int.tmod (wrap64 (a1)) 1025) + 1))) (wrap64 (Int.tmod a0 3)) t109 t110 x53_6 = some r) ∧ Aside0 (kq ≤ k) ∧ Aside0 (Below w.heap.size w wc))
    case first =>
      have H := HC7.out
      clear HC7
      by_cases c10 : t110 < 0
      · rw [if_pos c10] at H
        have c10b0 : decide (t110 < 0) = true := decide_eq_true c10
        clear c10
        (first | rw [c10b0] | (simp only [i64_w, i32_w]; rw [c10b0]) | skip)
        have H' := Aside0.mk H
        clear H
        go_wp2
        go_meet
        case rel => exact ⟨_, (true), (by first | rfl | (simp; done) | (simp [*]; done)), H', ⟨by first | omega | exact Nat.le_refl _⟩, ⟨by repeat (first | (with_reducible first | exact HB.out | apply below_alloc | apply pw_below_drewN | apply below_drew1) | exact HB.out)⟩⟩
      · rw [if_neg c10] at H
        have c10b0 : decide (t110 < 0) = false := decide_eq_false c10
        clear c10
        (first | rw [c10b0] | (simp only [i64_w, i32_w]; rw [c10b0]) | skip)
        by_cases c11 : t110 > t109
        · rw [if_pos c11] at H
          have c11b0 : decide (t109 < t110) = true := decide_eq_true c11
          clear c11
          have H' := Aside0.mk H
          clear H
          go_wp2
          go_meet
          case rel => exact ⟨_, (true), (by first | rfl | (simp; done) | (simp [*]; done)), H', ⟨by first | omega | exact Nat.le_refl _⟩, ⟨by repeat (first | (with_reducible first | exact HB.out | apply below_alloc | apply pw_below_drewN | apply below_drew1) | exact HB.out)⟩⟩
        · rw [if_neg c11] at H
          have c11b0 : decide (t109 < t110) = false := decide_eq_false c11
          clear c11
          by_cases c12 : t109 > (Int.tmod (wrap64 (a1)) 1025)
          · rw [if_pos c12] at H
            have c12b0 : decide ((Int.tmod (wrap64 (a1)) 1025) < t109) = true := decide_eq_true c12
            clear c12
            by_cases c13 : t109 = 8
            · rw [if_pos c13] at H
              have c13b0 : (t109 == 8) = true := beq_iff_eq.mpr c13
              have c13b1 : (t109 != 8) = false := bne_eq_false_iff_eq.mpr c13
              clear c13
              by_cases c14 : (Int.tmod (wrap64 (a1)) 1025) = 0
              · rw [if_pos c14] at H
                have c14b0 : ((Int.tmod (wrap64 (a1)) 1025) == 0) = true := beq_iff_eq.mpr c14
                have c14b1 : ((Int.tmod (wrap64 (a1)) 1025) != 0) = false := bne_eq_false_iff_eq.mpr c14
                clear c14
                have H' := Aside0.mk H
                clear H
                go_wp2
                go_meet
                case rel => exact ⟨_, ((t109 != 0)), (by first | rfl | (simp; done) | (simp [*]; done)), H', ⟨by first | omega | exact Nat.le_refl _⟩, ⟨by repeat (first | (with_reducible first | exact HB.out | apply below_alloc | apply pw_below_drewN | apply below_drew1) | exact HB.out)⟩⟩
              · rw [if_neg c14] at H
                have c14b0 : ((Int.tmod (wrap64 (a1)) 1025) == 0) = false := beq_eq_false_iff_ne.mpr c14
                have c14b1 : ((Int.tmod (wrap64 (a1)) 1025) != 0) = true := bne_iff_ne.mpr c14
                have H' := Aside0.mk H
                clear H
                go_wp2
                go_meet
                case rel => exact ⟨_, (false), (by first | rfl | (simp; done) | (simp [*]; done)), H', ⟨by first | omega | exact Nat.le_refl _⟩, ⟨by repeat (first | (with_reducible first | exact HB.out | apply below_alloc | apply pw_below_drewN | apply below_drew1) | exact HB.out)⟩⟩
            · rw [if_neg c13] at H
              have c13b0 : (t109 == 8) = false := beq_eq_false_iff_ne.mpr c13
              have c13b1 : (t109 != 8) = true := bne_iff_ne.mpr c13
              have H' := Aside0.mk H
              clear H
              go_wp2
              go_meet
              case rel => exact ⟨_, (true), (by first | rfl | (simp; done) | (simp [*]; done)), H', ⟨by first | omega | exact Nat.le_refl _⟩, ⟨by repeat (first | (with_reducible first | exact HB.out | apply below_alloc | apply pw_below_drewN | apply below_drew1) | exact HB.out)⟩⟩
          · rw [if_neg c12] at H
            have c12b0 : decide ((Int.tmod (wrap64 (a1)) 1025) < t109) = false := decide_eq_false c12
            clear c12
            by_cases c15 : (Int.tmod (wrap64 (a1)) 1025) = 0
            · rw [if_pos c15] at H
              have c15b0 : ((Int.tmod (wrap64 (a1)) 1025) == 0) = true := beq_iff_eq.mpr c15
              have c15b1 : ((Int.tmod (wrap64 (a1)) 1025) != 0) = false := bne_eq_false_iff_eq.mpr c15
              clear c15
              have H' := Aside0.mk H
              clear H
              go_wp2
              go_meet
              case rel => exact ⟨_, ((t109 != 0)), (by first | rfl | (simp; done) | (simp [*]; done)), H', ⟨by first | omega | exact Nat.le_refl _⟩, ⟨by repeat (first | (with_reducible first | exact HB.out | apply below_alloc | apply pw_below_drewN | apply below_drew1) | exact HB.out)⟩⟩
            · rw [if_neg c15] at H
              have c15b0 : ((Int.tmod (wrap64 (a1)) 1025) == 0) = false := beq_eq_false_iff_ne.mpr c15
              have c15b1 : ((Int.tmod (wrap64 (a1)) 1025) != 0) = true := bne_iff_ne.mpr c15
              have H' := Aside0.mk H
              clear H
              go_wp2
              go_meet
              case rel => exact ⟨_, (false), (by first | rfl | (simp; done) | (simp [*]; done)), H', ⟨by first | omega | exact Nat.le_refl _⟩, ⟨by repeat (first | (with_reducible first | exact HB.out | apply below_alloc | apply pw_below_drewN | apply below_drew1) | exact HB.out)⟩⟩
    case rest =>
      clear HC7
      try clear c1
      try clear p2
      try clear c4
      try clear c4b0
      try clear c4b1
      try clear c5
      try clear p6
      try clear c10
      try clear c10b0
      try clear c11
      try clear c11b0
      try clear c12
      try clear c12b0
      try clear c13
      try clear c13b0
      try clear c13b1
      try clear c14
      try clear c14b0
      try clear c14b1
      try clear c15
      try clear c15b0
      try clear c15b1
      obtain ⟨kq, x53_6, rfl, HA, HJ6, HB⟩ := hcut
      cases kq with
      | zero => exact absurd HA.out (by simp [whispererlaw13_ViewPlaces.j0])
      | succ kj6 =>
        have H := HA.out
        clear HA
        simp only [whispererlaw13_ViewPlaces.j0] at H
        by_cases c16 : x53_6 = true
        · subst c16
          have H1 : (some false) = some r := by rw [if_pos rfl] at H; exact H
          clear H
          have H := H1
          clear H1
          obtain rfl := Option.some.inj H
          go_wp2
          go_ret
          exact ⟨by first | rfl | (simp [errW_none, errW_some] <;> rfl) | (simp [*, errW_none, errW_some] <;> rfl), by repeat (first | (with_reducible first | exact HB.out | apply below_alloc | apply pw_below_drewN | apply below_drew1) | exact HB.out)⟩
        · replace c16 := Bool.eq_false_iff.mpr c16
          subst c16
          have H1 : (if (wrap64 (Int.tmod a0 3)) = 1 then (if t109 = (Int.tmod (wrap64 (a1)) 1025) then (if t110 = (Int.tmod (wrap64 (a2)) (wrap64 ((Int.tmod (wrap64 (a1)) 1025) + 1))) then (if (wrap64 (Int.tmod a0 3)) = 0 then (whispererlaw13_ViewPlaces.j1 kj6 (Int.tmod (wrap64 (a1)) 1025) (wrap64 (Int.tmod a0 3)) (t109 != 0)) else (whispererlaw13_ViewPlaces.j1 kj6 (Int.tmod (wrap64 (a1)) 1025) (wrap64 (Int.tmod a0 3)) false)) else (whispererlaw13_ViewPlaces.j1 kj6 (Int.tmod (wrap64 (a1)) 1025) (wrap64 (Int.tmod a0 3)) true)) else (whispererlaw13_ViewPlaces.j1 kj6 (Int.tmod (wrap64 (a1)) 1025) (wrap64 (Int.tmod a0 3)) true)) else (if (wrap64 (Int.tmod a0 3)) = 0 then (whispererlaw13_ViewPlaces.j1 kj6 (Int.tmod (wrap64 (a1)) 1025) (wrap64 (Int.tmod a0 3)) (t109 != 0)) else (whispererlaw13_ViewPlaces.j1 kj6 (Int.tmod (wrap64 (a1)) 1025) (wrap64 (Int.tmod a0 3)) false))) = some r := by rw [if_neg (show ¬ (false = true) by decide)] at H; exact H
          clear H
          have H := H1
          clear H1
          have HC17 := Aside0.mk H
          clear H
          go_upto_region 7 with (fail)
          go_cut [73] (fun v73 wc => ∃ (kq : Nat) (x73_16 : Bool), v73 = .bool x73_16 ∧ Aside0 (whispererlaw13_ViewPlaces.j1 kq (Int.tmod (wrap64 (a1)) 1025) (wrap64 (Int.tmod a0 3)) x73_16 = some r) ∧ Aside0 (kq ≤ kj6) ∧ Aside0 (Below w.heap.size w wc))
          case first =>
            have H := HC17.out
            clear HC17
            by_cases c18 : (wrap64 (Int.tmod a0 3)) = 1
            · rw [if_pos c18] at H
              have c18b0 : ((wrap64 (Int.tmod a0 3)) == 1) = true := beq_iff_eq.mpr c18
              have c18b1 : ((wrap64 (Int.tmod a0 3)) != 1) = false := bne_eq_false_iff_eq.mpr c18
              clear c18
              (first | rw [c18b0] | (simp only [i64_w, i32_w]; rw [c18b0]) | skip)
              by_cases c19 : t109 = (Int.tmod (wrap64 (a1)) 1025)
              · rw [if_pos c19] at H
                have c19b0 : (t109 == (Int.tmod (wrap64 (a1)) 1025)) = true := beq_iff_eq.mpr c19
                have c19b1 : (t109 != (Int.tmod (wrap64 (a1)) 1025)) = false := bne_eq_false_iff_eq.mpr c19
                clear c19
                by_cases c20 : t110 = (Int.tmod (wrap64 (a2)) (wrap64 ((Int.tmod (wrap64 (a1)) 1025) + 1)))
                · rw [if_pos c20] at H
                  have c20b0 : (t110 == (Int.tmod (wrap64 (a2)) (wrap64 ((Int.tmod (wrap64 (a1)) 1025) + 1)))) = true := beq_iff_eq.mpr c20
                  have c20b1 : (t110 != (Int.tmod (wrap64 (a2)) (wrap64 ((Int.tmod (wrap64 (a1)) 1025) + 1)))) = false := bne_eq_false_iff_eq.mpr c20
                  clear c20
                  by_cases c21 : (wrap64 (Int.tmod a0 3)) = 0
                  · rw [if_pos c21] at H
                    have c21b0 : ((wrap64 (Int.tmod a0 3)) == 0) = true := beq_iff_eq.mpr c21
                    have c21b1 : ((wrap64 (Int.tmod a0 3)) != 0) = false := bne_eq_false_iff_eq.mpr c21
                    clear c21
                    have H' := Aside0.mk H
                    clear H
                    go_wp2
                    go_meet
                    case rel => exact ⟨_, ((t109 != 0)), (by first | rfl | (simp; done) | (simp [*]; done)), H', ⟨by have := HJ6.out; first | omega | exact Nat.le_refl _⟩, ⟨by repeat (first | (with_reducible first | exact HB.out | apply below_alloc | apply pw_below_drewN | apply below_drew1) | exact HB.out)⟩⟩
                  · rw [if_neg c21] at H
                    have c21b0 : ((wrap64 (Int.tmod a0 3)) == 0) = false := beq_eq_false_iff_ne.mpr c21
                    have c21b1 : ((wrap64 (Int.tmod a0 3)) != 0) = true := bne_iff_ne.mpr c21
                    have H' := Aside0.mk H
                    clear H
                    go_wp2
                    go_meet
                    case rel => exact ⟨_, (false), (by first | rfl | (simp; done) | (simp [*]; done)), H', ⟨by have := HJ6.out; first | omega | exact Nat.le_refl _⟩, ⟨by repeat (first | (with_reducible first | exact HB.out | apply below_alloc | apply pw_below_drewN | apply below_drew1) | exact HB.out)⟩⟩
                · rw [if_neg c20] at H
                  have c20b0 : (t110 == (Int.tmod (wrap64 (a2)) (wrap64 ((Int.tmod (wrap64 (a1)) 1025) + 1)))) = false := beq_eq_false_iff_ne.mpr c20
                  have c20b1 : (t110 != (Int.tmod (wrap64 (a2)) (wrap64 ((Int.tmod (wrap64 (a1)) 1025) + 1)))) = true := bne_iff_ne.mpr c20
                  have H' := Aside0.mk H
                  clear H
                  go_wp2
                  go_meet
                  case rel => exact ⟨_, (true), (by first | rfl | (simp; done) | (simp [*]; done)), H', ⟨by have := HJ6.out; first | omega | exact Nat.le_refl _⟩, ⟨by repeat (first | (with_reducible first | exact HB.out | apply below_alloc | apply pw_below_drewN | apply below_drew1) | exact HB.out)⟩⟩
              · rw [if_neg c19] at H
                have c19b0 : (t109 == (Int.tmod (wrap64 (a1)) 1025)) = false := beq_eq_false_iff_ne.mpr c19
                have c19b1 : (t109 != (Int.tmod (wrap64 (a1)) 1025)) = true := bne_iff_ne.mpr c19
                have H' := Aside0.mk H
                clear H
                go_wp2
                go_meet
                case rel => exact ⟨_, (true), (by first | rfl | (simp; done) | (simp [*]; done)), H', ⟨by have := HJ6.out; first | omega | exact Nat.le_refl _⟩, ⟨by repeat (first | (with_reducible first | exact HB.out | apply below_alloc | apply pw_below_drewN | apply below_drew1) | exact HB.out)⟩⟩
            · rw [if_neg c18] at H
              have c18b0 : ((wrap64 (Int.tmod a0 3)) == 1) = false := beq_eq_false_iff_ne.mpr c18
              have c18b1 : ((wrap64 (Int.tmod a0 3)) != 1) = true := bne_iff_ne.mpr c18
              (first | rw [c18b0] | (simp only [i64_w, i32_w]; rw [c18b0]) | skip)
              by_cases c22 : (wrap64 (Int.tmod a0 3)) = 0
              · rw [if_pos c22] at H
                have c22b0 : ((wrap64 (Int.tmod a0 3)) == 0) = true := beq_iff_eq.mpr c22
                have c22b1 : ((wrap64 (Int.tmod a0 3)) != 0) = false := bne_eq_false_iff_eq.mpr c22
                clear c22
                have H' := Aside0.mk H
                clear H
                go_wp2
                go_meet
                case rel => exact ⟨_, ((t109 != 0)), (by first | rfl | (simp; done) | (simp [*]; done)), H', ⟨by have := HJ6.out; first | omega | exact Nat.le_refl _⟩, ⟨by repeat (first | (with_reducible first | exact HB.out | apply below_alloc | apply pw_below_drewN | apply below_drew1) | exact HB.out)⟩⟩
              · rw [if_neg c22] at H
                have c22b0 : ((wrap64 (Int.tmod a0 3)) == 0) = false := beq_eq_false_iff_ne.mpr c22
                have c22b1 : ((wrap64 (Int.tmod a0 3)) != 0) = true := bne_iff_ne.mpr c22
                have H' := Aside0.mk H
                clear H
                go_wp2
                go_meet
                case rel => exact ⟨_, (false), (by first | rfl | (simp; done) | (simp [*]; done)), H', ⟨by have := HJ6.out; first | omega | exact Nat.le_refl _⟩, ⟨by repeat (first | (with_reducible first | exact HB.out | apply below_alloc | apply pw_below_drewN | apply below_drew1) | exact HB.out)⟩⟩
          case rest =>
            clear HC17
            try clear c1
            try clear c2
            try clear p2
            try clear c4
            try clear c4b0
            try clear c4b1
            try clear c5
            try clear p6
            try clear c10
            try clear c10b0
            try clear c11
            try clear c11b0
            try clear c12
            try clear c12b0
            try clear c13
            try clear c13b0
            try clear c13b1
            try clear c14
            try clear c14b0
            try clear c14b1
            try clear c15
            try clear c15b0
            try clear c15b1
            try clear c16
            try clear c18
            try clear c18b0
            try clear c18b1
            try clear c19
            try clear c19b0
            try clear c19b1
            try clear c20
            try clear c20b0
            try clear c20b1
            try clear c21
            try clear c21b0
            try clear c21b1
            try clear c22
            try clear c22b0
            try clear c22b1
            try clear p2
            try clear p6
            obtain ⟨kq, x73_16, rfl, HA, HJ16, HB⟩ := hcut
            cases kq with
            | zero => exact absurd HA.out (by simp [whispererlaw13_ViewPlaces.j1])
            | succ kj16 =>
              have H := HA.out
              clear HA
              simp only [whispererlaw13_ViewPlaces.j1] at H
              by_cases c23 : x73_16 = true
              · subst c23
                have H1 : (some false) = some r := by rw [if_pos rfl] at H; exact H
                clear H
                have H := H1
                clear H1
                obtain rfl := Option.some.inj H
                go_wp2
                go_ret
                exact ⟨by first | rfl | (simp [errW_none, errW_some] <;> rfl) | (simp [*, errW_none, errW_some] <;> rfl), by repeat (first | (with_reducible first | exact HB.out | apply below_alloc | apply pw_below_drewN | apply below_drew1) | exact HB.out)⟩
              · replace c23 := Bool.eq_false_iff.mpr c23
                subst c23
                have H1 : ((whispererlaw13_alive.f kj16).bind fun t111 => (if t111 = true then ((Hand.view_Stars.f 3 (Int.tmod (wrap64 (a1)) 1025)).bind fun t112 => (if t112 = 0 then ((Hand.view_Stars.f (-1) (Int.tmod (wrap64 (a1)) 1025)).bind fun t113 => (if t113 = 0 then ((Hand.view_Stars.f (wrap64 (Int.tmod a0 3)) 1025).bind fun t114 => (if t114 = 0 then ((Hand.view_Place.f (wrap64 (Int.tmod a0 3)) (Int.tmod (wrap64 (a1)) 1025) (wrap64 ((Int.tmod (wrap64 (a1)) 1025) + 1))).bind fun t115 => (some (t115 == 0))) else (some false))) else (some false))) else (some false))) else (some false))) = some r := by rw [if_neg (show ¬ (false = true) by decide)] at H; exact H
                clear H
                have H := H1
                clear H1
                replace H := Option.bind_eq_some_iff.mp H
                obtain ⟨t111, A240, H⟩ := H
                replace H : (if t111 = true then ((Hand.view_Stars.f 3 (Int.tmod (wrap64 (a1)) 1025)).bind fun t112 => (if t112 = 0 then ((Hand.view_Stars.f (-1) (Int.tmod (wrap64 (a1)) 1025)).bind fun t113 => (if t113 = 0 then ((Hand.view_Stars.f (wrap64 (Int.tmod a0 3)) 1025).bind fun t114 => (if t114 = 0 then ((Hand.view_Place.f (wrap64 (Int.tmod a0 3)) (Int.tmod (wrap64 (a1)) 1025) (wrap64 ((Int.tmod (wrap64 (a1)) 1025) + 1))).bind fun t115 => (some (t115 == 0))) else (some false))) else (some false))) else (some false))) else (some false)) = some r := H
                have A24 := Aside0.mk A240
                clear A240
                by_cases c25 : t111 = true
                · subst c25
                  have H1 : ((Hand.view_Stars.f 3 (Int.tmod (wrap64 (a1)) 1025)).bind fun t112 => (if t112 = 0 then ((Hand.view_Stars.f (-1) (Int.tmod (wrap64 (a1)) 1025)).bind fun t113 => (if t113 = 0 then ((Hand.view_Stars.f (wrap64 (Int.tmod a0 3)) 1025).bind fun t114 => (if t114 = 0 then ((Hand.view_Place.f (wrap64 (Int.tmod a0 3)) (Int.tmod (wrap64 (a1)) 1025) (wrap64 ((Int.tmod (wrap64 (a1)) 1025) + 1))).bind fun t115 => (some (t115 == 0))) else (some false))) else (some false))) else (some false))) = some r := by rw [if_pos rfl] at H; exact H
                  clear H
                  have H := H1
                  clear H1
                  replace H := Option.bind_eq_some_iff.mp H
                  obtain ⟨t112, A260, H⟩ := H
                  replace H : (if t112 = 0 then ((Hand.view_Stars.f (-1) (Int.tmod (wrap64 (a1)) 1025)).bind fun t113 => (if t113 = 0 then ((Hand.view_Stars.f (wrap64 (Int.tmod a0 3)) 1025).bind fun t114 => (if t114 = 0 then ((Hand.view_Place.f (wrap64 (Int.tmod a0 3)) (Int.tmod (wrap64 (a1)) 1025) (wrap64 ((Int.tmod (wrap64 (a1)) 1025) + 1))).bind fun t115 => (some (t115 == 0))) else (some false))) else (some false))) else (some false)) = some r := H
                  have A26 := Aside0.mk A260
                  clear A260
                  by_cases c27 : t112 = 0
                  · rw [if_pos c27] at H
                    have c27b0 : (t112 == 0) = true := beq_iff_eq.mpr c27
                    have c27b1 : (t112 != 0) = false := bne_eq_false_iff_eq.mpr c27
                    clear c27
                    replace H := Option.bind_eq_some_iff.mp H
                    obtain ⟨t113, A280, H⟩ := H
                    replace H : (if t113 = 0 then ((Hand.view_Stars.f (wrap64 (Int.tmod a0 3)) 1025).bind fun t114 => (if t114 = 0 then ((Hand.view_Place.f (wrap64 (Int.tmod a0 3)) (Int.tmod (wrap64 (a1)) 1025) (wrap64 ((Int.tmod (wrap64 (a1)) 1025) + 1))).bind fun t115 => (some (t115 == 0))) else (some false))) else (some false)) = some r := H
                    have A28 := Aside0.mk A280
                    clear A280
                    by_cases c29 : t113 = 0
                    · rw [if_pos c29] at H
                      have c29b0 : (t113 == 0) = true := beq_iff_eq.mpr c29
                      have c29b1 : (t113 != 0) = false := bne_eq_false_iff_eq.mpr c29
                      clear c29
                      replace H := Option.bind_eq_some_iff.mp H
                      obtain ⟨t114, A300, H⟩ := H
                      replace H : (if t114 = 0 then ((Hand.view_Place.f (wrap64 (Int.tmod a0 3)) (Int.tmod (wrap64 (a1)) 1025) (wrap64 ((Int.tmod (wrap64 (a1)) 1025) + 1))).bind fun t115 => (some (t115 == 0))) else (some false)) = some r := H
                      have A30 := Aside0.mk A300
                      clear A300
                      by_cases c31 : t114 = 0
                      · rw [if_pos c31] at H
                        have c31b0 : (t114 == 0) = true := beq_iff_eq.mpr c31
                        have c31b1 : (t114 != 0) = false := bne_eq_false_iff_eq.mpr c31
                        clear c31
                        replace H := Option.bind_eq_some_iff.mp H
                        obtain ⟨t115, A320, H⟩ := H
                        replace H : (some (t115 == 0)) = some r := H
                        have A32 := Aside0.mk A320
                        clear A320
                        obtain rfl := Option.some.inj H
                        go_wp2_with (first | ((with_reducible refine gate_callee (f := 8) rfl ?_); refine goesL_ (some 74) rfl rfl Tryd.func8 (by kernel_rfl) rfl #[] rfl (by (try simp only [List.map_toArray, List.map_cons, List.map_nil]); first | done | rfl | (simp only [List.length_drop, List.length_take]; rfl)) ?_; (with_reducible refine (whispererlaw13_alive.calls kj16  true _ ?side1 A24.out).mono ?_); (case side1 => exact (Go.Proofs.YtoeaidhkohfaoaaDoor.Hand.TabV.below HTab_ (by repeat (first | (with_reducible first | exact HB.out | apply below_alloc | apply pw_below_drewN | apply below_drew1) | exact HB.out)))); rintro e w33 ⟨rfl, hb⟩; refine ⟨_, rfl, ?_⟩; have n0_ := Aside0.mk (below_step (by repeat (first | (with_reducible first | exact HB.out | apply below_alloc | apply pw_below_drewN | apply below_drew1) | exact HB.out)) hb); clear HB; have HB := n0_; clear n0_; (try clear hb); (try clear hb2); (try clear hk); (try clear hi)) | (go_at_call 13; (with_reducible refine (Hand.view_Stars.calls 3 (Int.tmod (wrap64 (a1)) 1025) t112 _ A26.out).mono ?_); rintro e w34 ⟨rfl, hb⟩; have n0_ := Aside0.mk (below_step (by repeat (first | (with_reducible first | exact HB.out | apply below_alloc | apply pw_below_drewN | apply below_drew1) | exact HB.out)) hb); clear HB; have HB := n0_; clear n0_; (try clear hb); (try clear hb2); (try clear hk); (try clear hi)) | (go_at_call 13; (with_reducible refine (Hand.view_Stars.calls (-1) (Int.tmod (wrap64 (a1)) 1025) t113 _ A28.out).mono ?_); rintro e w35 ⟨rfl, hb⟩; have n0_ := Aside0.mk (below_step (by repeat (first | (with_reducible first | exact HB.out | apply below_alloc | apply pw_below_drewN | apply below_drew1) | exact HB.out)) hb); clear HB; have HB := n0_; clear n0_; (try clear hb); (try clear hb2); (try clear hk); (try clear hi)) | (go_at_call 13; (with_reducible refine (Hand.view_Stars.calls (wrap64 (Int.tmod a0 3)) 1025 t114 _ A30.out).mono ?_); rintro e w36 ⟨rfl, hb⟩; have n0_ := Aside0.mk (below_step (by repeat (first | (with_reducible first | exact HB.out | apply below_alloc | apply pw_below_drewN | apply below_drew1) | exact HB.out)) hb); clear HB; have HB := n0_; clear n0_; (try clear hb); (try clear hb2); (try clear hk); (try clear hi)) | (go_at_call 15; (with_reducible refine (Hand.view_Place.calls (wrap64 (Int.tmod a0 3)) (Int.tmod (wrap64 (a1)) 1025) (wrap64 ((Int.tmod (wrap64 (a1)) 1025) + 1)) t115 _ A32.out).mono ?_); rintro e w37 ⟨rfl, hb⟩; have n0_ := Aside0.mk (below_step (by repeat (first | (with_reducible first | exact HB.out | apply below_alloc | apply pw_below_drewN | apply below_drew1) | exact HB.out)) hb); clear HB; have HB := n0_; clear n0_; (try clear hb); (try clear hb2); (try clear hk); (try clear hi)))
                        go_ret
                        exact ⟨by first | rfl | (simp [errW_none, errW_some] <;> rfl) | (simp [*, errW_none, errW_some] <;> rfl), by repeat (first | (with_reducible first | exact HB.out | apply below_alloc | apply pw_below_drewN | apply below_drew1) | exact HB.out)⟩
                      · rw [if_neg c31] at H
                        have c31b0 : (t114 == 0) = false := beq_eq_false_iff_ne.mpr c31
                        have c31b1 : (t114 != 0) = true := bne_iff_ne.mpr c31
                        obtain rfl := Option.some.inj H
                        go_wp2_with (first | ((with_reducible refine gate_callee (f := 8) rfl ?_); refine goesL_ (some 74) rfl rfl Tryd.func8 (by kernel_rfl) rfl #[] rfl (by (try simp only [List.map_toArray, List.map_cons, List.map_nil]); first | done | rfl | (simp only [List.length_drop, List.length_take]; rfl)) ?_; (with_reducible refine (whispererlaw13_alive.calls kj16  true _ ?side1 A24.out).mono ?_); (case side1 => exact (Go.Proofs.YtoeaidhkohfaoaaDoor.Hand.TabV.below HTab_ (by repeat (first | (with_reducible first | exact HB.out | apply below_alloc | apply pw_below_drewN | apply below_drew1) | exact HB.out)))); rintro e w38 ⟨rfl, hb⟩; refine ⟨_, rfl, ?_⟩; have n0_ := Aside0.mk (below_step (by repeat (first | (with_reducible first | exact HB.out | apply below_alloc | apply pw_below_drewN | apply below_drew1) | exact HB.out)) hb); clear HB; have HB := n0_; clear n0_; (try clear hb); (try clear hb2); (try clear hk); (try clear hi)) | (go_at_call 13; (with_reducible refine (Hand.view_Stars.calls 3 (Int.tmod (wrap64 (a1)) 1025) t112 _ A26.out).mono ?_); rintro e w39 ⟨rfl, hb⟩; have n0_ := Aside0.mk (below_step (by repeat (first | (with_reducible first | exact HB.out | apply below_alloc | apply pw_below_drewN | apply below_drew1) | exact HB.out)) hb); clear HB; have HB := n0_; clear n0_; (try clear hb); (try clear hb2); (try clear hk); (try clear hi)) | (go_at_call 13; (with_reducible refine (Hand.view_Stars.calls (-1) (Int.tmod (wrap64 (a1)) 1025) t113 _ A28.out).mono ?_); rintro e w40 ⟨rfl, hb⟩; have n0_ := Aside0.mk (below_step (by repeat (first | (with_reducible first | exact HB.out | apply below_alloc | apply pw_below_drewN | apply below_drew1) | exact HB.out)) hb); clear HB; have HB := n0_; clear n0_; (try clear hb); (try clear hb2); (try clear hk); (try clear hi)) | (go_at_call 13; (with_reducible refine (Hand.view_Stars.calls (wrap64 (Int.tmod a0 3)) 1025 t114 _ A30.out).mono ?_); rintro e w41 ⟨rfl, hb⟩; have n0_ := Aside0.mk (below_step (by repeat (first | (with_reducible first | exact HB.out | apply below_alloc | apply pw_below_drewN | apply below_drew1) | exact HB.out)) hb); clear HB; have HB := n0_; clear n0_; (try clear hb); (try clear hb2); (try clear hk); (try clear hi)))
                        go_ret
                        exact ⟨by first | rfl | (simp [errW_none, errW_some] <;> rfl) | (simp [*, errW_none, errW_some] <;> rfl), by repeat (first | (with_reducible first | exact HB.out | apply below_alloc | apply pw_below_drewN | apply below_drew1) | exact HB.out)⟩
                    · rw [if_neg c29] at H
                      have c29b0 : (t113 == 0) = false := beq_eq_false_iff_ne.mpr c29
                      have c29b1 : (t113 != 0) = true := bne_iff_ne.mpr c29
                      obtain rfl := Option.some.inj H
                      go_wp2_with (first | ((with_reducible refine gate_callee (f := 8) rfl ?_); refine goesL_ (some 74) rfl rfl Tryd.func8 (by kernel_rfl) rfl #[] rfl (by (try simp only [List.map_toArray, List.map_cons, List.map_nil]); first | done | rfl | (simp only [List.length_drop, List.length_take]; rfl)) ?_; (with_reducible refine (whispererlaw13_alive.calls kj16  true _ ?side1 A24.out).mono ?_); (case side1 => exact (Go.Proofs.YtoeaidhkohfaoaaDoor.Hand.TabV.below HTab_ (by repeat (first | (with_reducible first | exact HB.out | apply below_alloc | apply pw_below_drewN | apply below_drew1) | exact HB.out)))); rintro e w42 ⟨rfl, hb⟩; refine ⟨_, rfl, ?_⟩; have n0_ := Aside0.mk (below_step (by repeat (first | (with_reducible first | exact HB.out | apply below_alloc | apply pw_below_drewN | apply below_drew1) | exact HB.out)) hb); clear HB; have HB := n0_; clear n0_; (try clear hb); (try clear hb2); (try clear hk); (try clear hi)) | (go_at_call 13; (with_reducible refine (Hand.view_Stars.calls 3 (Int.tmod (wrap64 (a1)) 1025) t112 _ A26.out).mono ?_); rintro e w43 ⟨rfl, hb⟩; have n0_ := Aside0.mk (below_step (by repeat (first | (with_reducible first | exact HB.out | apply below_alloc | apply pw_below_drewN | apply below_drew1) | exact HB.out)) hb); clear HB; have HB := n0_; clear n0_; (try clear hb); (try clear hb2); (try clear hk); (try clear hi)) | (go_at_call 13; (with_reducible refine (Hand.view_Stars.calls (-1) (Int.tmod (wrap64 (a1)) 1025) t113 _ A28.out).mono ?_); rintro e w44 ⟨rfl, hb⟩; have n0_ := Aside0.mk (below_step (by repeat (first | (with_reducible first | exact HB.out | apply below_alloc | apply pw_below_drewN | apply below_drew1) | exact HB.out)) hb); clear HB; have HB := n0_; clear n0_; (try clear hb); (try clear hb2); (try clear hk); (try clear hi)))
                      go_ret
                      exact ⟨by first | rfl | (simp [errW_none, errW_some] <;> rfl) | (simp [*, errW_none, errW_some] <;> rfl), by repeat (first | (with_reducible first | exact HB.out | apply below_alloc | apply pw_below_drewN | apply below_drew1) | exact HB.out)⟩
                  · rw [if_neg c27] at H
                    have c27b0 : (t112 == 0) = false := beq_eq_false_iff_ne.mpr c27
                    have c27b1 : (t112 != 0) = true := bne_iff_ne.mpr c27
                    obtain rfl := Option.some.inj H
                    go_wp2_with (first | ((with_reducible refine gate_callee (f := 8) rfl ?_); refine goesL_ (some 74) rfl rfl Tryd.func8 (by kernel_rfl) rfl #[] rfl (by (try simp only [List.map_toArray, List.map_cons, List.map_nil]); first | done | rfl | (simp only [List.length_drop, List.length_take]; rfl)) ?_; (with_reducible refine (whispererlaw13_alive.calls kj16  true _ ?side1 A24.out).mono ?_); (case side1 => exact (Go.Proofs.YtoeaidhkohfaoaaDoor.Hand.TabV.below HTab_ (by repeat (first | (with_reducible first | exact HB.out | apply below_alloc | apply pw_below_drewN | apply below_drew1) | exact HB.out)))); rintro e w45 ⟨rfl, hb⟩; refine ⟨_, rfl, ?_⟩; have n0_ := Aside0.mk (below_step (by repeat (first | (with_reducible first | exact HB.out | apply below_alloc | apply pw_below_drewN | apply below_drew1) | exact HB.out)) hb); clear HB; have HB := n0_; clear n0_; (try clear hb); (try clear hb2); (try clear hk); (try clear hi)) | (go_at_call 13; (with_reducible refine (Hand.view_Stars.calls 3 (Int.tmod (wrap64 (a1)) 1025) t112 _ A26.out).mono ?_); rintro e w46 ⟨rfl, hb⟩; have n0_ := Aside0.mk (below_step (by repeat (first | (with_reducible first | exact HB.out | apply below_alloc | apply pw_below_drewN | apply below_drew1) | exact HB.out)) hb); clear HB; have HB := n0_; clear n0_; (try clear hb); (try clear hb2); (try clear hk); (try clear hi)))
                    go_ret
                    exact ⟨by first | rfl | (simp [errW_none, errW_some] <;> rfl) | (simp [*, errW_none, errW_some] <;> rfl), by repeat (first | (with_reducible first | exact HB.out | apply below_alloc | apply pw_below_drewN | apply below_drew1) | exact HB.out)⟩
                · replace c25 := Bool.eq_false_iff.mpr c25
                  subst c25
                  have H1 : (some false) = some r := by rw [if_neg (show ¬ (false = true) by decide)] at H; exact H
                  clear H
                  have H := H1
                  clear H1
                  obtain rfl := Option.some.inj H
                  go_wp2_with (first | ((with_reducible refine gate_callee (f := 8) rfl ?_); refine goesL_ (some 74) rfl rfl Tryd.func8 (by kernel_rfl) rfl #[] rfl (by (try simp only [List.map_toArray, List.map_cons, List.map_nil]); first | done | rfl | (simp only [List.length_drop, List.length_take]; rfl)) ?_; (with_reducible refine (whispererlaw13_alive.calls kj16  false _ ?side1 A24.out).mono ?_); (case side1 => exact (Go.Proofs.YtoeaidhkohfaoaaDoor.Hand.TabV.below HTab_ (by repeat (first | (with_reducible first | exact HB.out | apply below_alloc | apply pw_below_drewN | apply below_drew1) | exact HB.out)))); rintro e w47 ⟨rfl, hb⟩; refine ⟨_, rfl, ?_⟩; have n0_ := Aside0.mk (below_step (by repeat (first | (with_reducible first | exact HB.out | apply below_alloc | apply pw_below_drewN | apply below_drew1) | exact HB.out)) hb); clear HB; have HB := n0_; clear n0_; (try clear hb); (try clear hb2); (try clear hk); (try clear hi)))
                  go_ret
                  exact ⟨by first | rfl | (simp [errW_none, errW_some] <;> rfl) | (simp [*, errW_none, errW_some] <;> rfl), by repeat (first | (with_reducible first | exact HB.out | apply below_alloc | apply pw_below_drewN | apply below_drew1) | exact HB.out)⟩

/-- THE ONE PURE STATEMENT of whispererlaw13_ViewPlaces: yours. -/
def whispererlaw13_ViewPlaces.Pure : Prop := ∀ (a0 : Int) (a1 : Int) (a2 : Int), (Lit.int .u8 a0).wf = true → (Lit.int .u16 a1).wf = true → (Lit.int .u16 a2).wf = true → ∃ k, whispererlaw13_ViewPlaces.f k a0 a1 a2 = some true
theorem whispererlaw13_ViewPlaces.walk (P : whispererlaw13_ViewPlaces.Pure) (a0 : Int) (a1 : Int) (a2 : Int) (w : World) (HTab_ : Go.Proofs.YtoeaidhkohfaoaaDoor.Hand.TabV w) (w0 : (Lit.int .u8 a0).wf = true) (w1 : (Lit.int .u16 a1).wf = true) (w2 : (Lit.int .u16 a2).wf = true) :
    Calls Tryd.prog 5 #[.int .u8 a0, .int .u16 a1, .int .u16 a2] w fun e w' => e = .returned (.bool true) ∧ Below w.heap.size w w' := by
  obtain ⟨k, h⟩ := P a0 a1 a2 w0 w1 w2
  refine (whispererlaw13_ViewPlaces.calls k a0 a1 a2 true w HTab_ h).mono ?_
  rintro e w' ⟨rfl, hd⟩
  exact ⟨rfl, hd⟩

end Go.Proofs.YtoeaidhkohfaoaaDoor.PViewPlaces
