-- Printed by a changed copy of the kit's print program that takes contracts proved by hand. Not trusted: Lean checks it.
import Derived.Test.YtmdeehblmkpddaaDoorProg
import Derived.Below
import Derived.Deep.Draws
import Derived.Deep.AppendLies
import Derived.Maps.AppendAt
import Derived.OwnWalk
import Derived.Laws.BytesArg
import Derived.Laws.MakeOwn
import Derived.Laws.OwnMore
import Derived.Deep.OwnRows
import Derived.Tactics
import Derived.Lib.ConvBytes
import Derived.Laws.Slices
import Derived.WalkKit
import Derived.KernelRfl
import Derived.RowKit3
import Derived.Deep.LoopGhost
import Derived.Deep.QuietTactic
import Derived.BigQuiet
import Derived.WideLaws
import Derived.Deep.DeepCutAuto
import Derived.Deep.CutBlock
import Derived.Deep.RegionHeld3
import Derived.Laws.Rows
import Derived.Lib.AppendStr
import Derived.ArgAppend
import Derived.Laws.IdiomCopy
import Derived.OrdersHeld
import Derived.Laws.BitsLemmas
import Derived.RowKit
import Derived.Test.YtmdeehblmkpddaaDoorHandUtf
import Derived.Test.YtmdeehblmkpddaaDoorWWords
import Derived.Test.YtmdeehblmkpddaaDoorWLast
import Derived.Test.YtmdeehblmkpddaaDoorWTab
import Derived.Test.YtmdeehblmkpddaaDoorWFour
import Derived.Test.YtmdeehblmkpddaaDoorWQPut
import Derived.Test.YtmdeehblmkpddaaDoorWApart
import Derived.Test.YtmdeehblmkpddaaDoorWArr
import Derived.Test.YtmdeehblmkpddaaDoorWZeros
import Derived.Test.YtmdeehblmkpddaaDoorWFoot
import Derived.Test.YtmdeehblmkpddaaDoorWKept
import Derived.Test.YtmdeehblmkpddaaDoorWShare
import Derived.Test.YtmdeehblmkpddaaDoorWN
import Derived.Test.YtmdeehblmkpddaaDoorWFootNe
import Derived.Test.YtmdeehblmkpddaaDoorWAt
import Derived.Test.YtmdeehblmkpddaaDoorWEqStruct
import Derived.Test.YtmdeehblmkpddaaDoorWRepsOne
import Derived.Test.YtmdeehblmkpddaaDoorWInv
import Derived.Test.YtmdeehblmkpddaaDoorWInvWords
import Derived.Test.YtmdeehblmkpddaaDoorWGuard
import Derived.Test.YtmdeehblmkpddaaDoorWNEv
import Derived.Test.YtmdeehblmkpddaaDoorWMore
namespace Go.Proofs.YtmdeehblmkpddaaDoor.PNext
open Go.RowKit Go.Proofs.YtmdeehblmkpddaaDoorW.PrintWords Go.Proofs.YtmdeehblmkpddaaDoorW.PrintLast Go.Proofs.YtmdeehblmkpddaaDoorW.PrintMore
attribute [local go_sem] max2_int min2_int max_two min_two max_three min_three max_four min_four   -- for this text's walks alone
set_option linter.unusedVariables false
set_option linter.unusedSimpArgs false



def errW : Option Int → Value
  | none => .nilIface
  | some c => .iface 0 (.int .i64 c)
theorem errW_none : errW none = .nilIface := rfl
theorem errW_some (c : Int) : errW (some c) = .iface 0 (.int .i64 c) := rfl

theorem info5 : (Tryd.prog.info? 5).map (fun i => (i.zero, i.size, i.bytes)) = some (some (.int .u8 0), 1, 1) := by kernel_rfl
-- the values' own types

end Go.Proofs.YtmdeehblmkpddaaDoor.PNext
namespace Go.Proofs.YtmdeehblmkpddaaDoor.PNext
open Go.RowKit Go.Proofs.YtmdeehblmkpddaaDoorW.PrintWords Go.Proofs.YtmdeehblmkpddaaDoorW.PrintLast Go.Proofs.YtmdeehblmkpddaaDoorW.PrintMore
attribute [local go_sem] max2_int min2_int max_two min_two max_three min_three max_four min_four   -- for this text's walks alone
set_option linter.unusedVariables false
set_option linter.unusedSimpArgs false

-- BY HAND: function 72 (utf8_DecodeRune)

-- BY HAND: function 84 (utf8_FullRune)

/-! ### utf_beginning: function 73 -/
def utf_beginning.f (l0 : List Int) : Option (Bool) := if (l0.length : Int) > 0 then (if (l0.length : Int) < 4 then ((Hand.utf8_FullRune.f l0).bind fun t101 => (some (!t101))) else (some false)) else (some false)
set_option maxHeartbeats 8000000 in
set_option maxRecDepth 100000 in
theorem utf_beginning.calls (A0 : Option Addr) (c0 : Nat) (l0 : List Int) (r : Bool) (w : World) (hr0 : Kd.C (Kd.int .u8) w A0 l0.length l0) (hc0 : l0.length ≤ c0) (HTab_ : Go.Proofs.YtmdeehblmkpddaaDoor.Hand.U8In w) (h : utf_beginning.f l0 = some r) :
    Calls Tryd.prog 73 #[.slice A0 l0.length c0] w fun e w' => e = .returned (.bool r) ∧ Below w.heap.size w w' := by
  have HR0 := Aside0.mk hr0
  have HC0 := Aside0.mk hc0
  clear hr0 hc0
  have HB := Aside0.mk (Below.refl w.heap.size w)
  have H : (if (l0.length : Int) > 0 then (if (l0.length : Int) < 4 then ((Hand.utf8_FullRune.f l0).bind fun t101 => (some (!t101))) else (some false)) else (some false)) = some r := h
  clear h
  by_cases c2 : (l0.length : Int) > 0
  · rw [if_pos c2] at H
    have c2b0 : decide (0 < (l0.length : Int)) = true := decide_eq_true c2
    have c2b1 : decide (0 < l0.length) = true := decide_eq_true (by omega)
    clear c2
    by_cases c3 : (l0.length : Int) < 4
    · rw [if_pos c3] at H
      have c3b0 : decide ((l0.length : Int) < 4) = true := decide_eq_true c3
      have c3b1 : decide (l0.length < 4) = true := decide_eq_true (by omega)
      clear c3
      replace H := Option.bind_eq_some_iff.mp H
      obtain ⟨t101, A40, H⟩ := H
      replace H : (some (!t101)) = some r := H
      have A4 := Aside0.mk A40
      clear A40
      obtain rfl := Option.some.inj H
      go_enter Tryd.func73, Tryd.ntmps73
      go_wp2_with (first | (go_at_call 84; (with_reducible refine (Hand.utf8_FullRune.calls _ _ l0 t101 _ ?side1 ?side2 ?side3 A4.out).mono ?_); (case side1 => repeat (first | exact HR0.out | (with_reducible refine Kd.C_alloc ?_ _) | (with_reducible refine Kd.C_drewN ?_ _) | (with_reducible refine Kd.C_drew ?_))); (case side2 => exact HC0.out); (case side3 => exact (Go.Proofs.YtmdeehblmkpddaaDoor.Hand.U8In.below HTab_ (by repeat (first | (with_reducible first | exact HB.out | apply below_alloc | apply pw_below_drewN | apply below_drew1) | exact HB.out)))); rintro e w5 ⟨rfl, hb⟩; have n0_ := Aside0.mk (below_step (by repeat (first | (with_reducible first | exact HB.out | apply below_alloc | apply pw_below_drewN | apply below_drew1) | exact HB.out)) hb); clear HB; have HB := n0_; clear n0_; (try clear hb); (try clear hb2); (try clear hk); (try clear hi)))
      go_ret
      exact ⟨by first | rfl | (simp [errW_none, errW_some] <;> rfl) | (simp [*, errW_none, errW_some] <;> rfl), by repeat (first | (with_reducible first | exact HB.out | apply below_alloc | apply pw_below_drewN | apply below_drew1) | exact HB.out)⟩
    · rw [if_neg c3] at H
      have c3b0 : decide ((l0.length : Int) < 4) = false := decide_eq_false c3
      have c3b1 : decide (l0.length < 4) = false := decide_eq_false (by omega)
      clear c3
      obtain rfl := Option.some.inj H
      go_enter Tryd.func73, Tryd.ntmps73
      go_wp2
      go_ret
      exact ⟨by first | rfl | (simp [errW_none, errW_some] <;> rfl) | (simp [*, errW_none, errW_some] <;> rfl), by repeat (first | (with_reducible first | exact HB.out | apply below_alloc | apply pw_below_drewN | apply below_drew1) | exact HB.out)⟩
  · rw [if_neg c2] at H
    have c2b0 : decide (0 < (l0.length : Int)) = false := decide_eq_false c2
    have c2b1 : decide (0 < l0.length) = false := decide_eq_false (by omega)
    clear c2
    obtain rfl := Option.some.inj H
    go_enter Tryd.func73, Tryd.ntmps73
    go_wp2
    go_ret
    exact ⟨by first | rfl | (simp [errW_none, errW_some] <;> rfl) | (simp [*, errW_none, errW_some] <;> rfl), by repeat (first | (with_reducible first | exact HB.out | apply below_alloc | apply pw_below_drewN | apply below_drew1) | exact HB.out)⟩

/-! ### utf_Next: function 50 -/
mutual
def utf_Next.j0 : Nat → List Int → Int → Int → Bool → Option (Int × Int × Int)
  | 0, _, _, _, _ => none
  | k + 1, x0, x5, x6, x20 => if x20 = true then (some (wrap64 (x5), x6, 0)) else ((utf_beginning.f x0).bind fun t104 => (if t104 = true then (some (0, (x0.length : Int), 7)) else (utf_Next.l0 k x0 1)))
def utf_Next.l0 : Nat → List Int → Int → Option (Int × Int × Int)
  | 0, _, _ => none
  | k + 1, x0, x6 => if x6 < (x0.length : Int) then (if 0 ≤ (wrap64 (x6 + 1)) then (if (wrap64 (x6 + 1)) ≤ (x0.length : Int) then ((utf_beginning.f (x0.take ((wrap64 (x6 + 1)) : Int).toNat)).bind fun t106 => (if t106 = true then (utf_Next.l0 k x0 (wrap64 (x6 + 1))) else (some (0, x6, 8)))) else (none)) else (none)) else (some (0, x6, 8))
end
def utf_Next.f (k : Nat) (l0 : List Int) : Option (Int × Int × Int) := if (l0.length : Int) = 0 then (some (0, 0, 6)) else ((Hand.utf8_DecodeRune.f l0).bind fun bt102 => (if bt102.1 = 65533 then (utf_Next.j0 k l0 bt102.1 bt102.2 (decide (bt102.2 > 1))) else (utf_Next.j0 k l0 bt102.1 bt102.2 true)))
theorem utf_Next.mono_l : ∀ k, (∀ y0 y1 y2 y3, LeO (utf_Next.j0 k y0 y1 y2 y3) (utf_Next.j0 (k + 1) y0 y1 y2 y3)) ∧ (∀ y0 y1, LeO (utf_Next.l0 k y0 y1) (utf_Next.l0 (k + 1) y0 y1))
  | 0 => ⟨fun _ _ _ _ r h => by simp [utf_Next.j0] at h, fun _ _ r h => by simp [utf_Next.l0] at h⟩
  | k + 1 => by
    obtain ⟨ih0, ih1⟩ := utf_Next.mono_l k
    refine ⟨?_, ?_⟩
    · intro y0 y1 y2 y3
      unfold utf_Next.j0
      repeat' first
      | (with_reducible exact ih0 _ _ _ _)
      | (with_reducible exact ih1 _ _)
      | (with_reducible exact LeO.refl _)
      | (with_reducible exact LeO.none _)
      | (with_reducible refine LeO.ite ?_ ?_)
      | (with_reducible refine LeO.bind ?_ (fun _ => ?_))
      | exact ih0 _ _ _ _
      | exact ih1 _ _
      | exact LeO.none _
      | refine LeO.ite ?_ ?_
      | refine LeO.bind ?_ (fun _ => ?_)
    · intro y0 y1
      unfold utf_Next.l0
      repeat' first
      | (with_reducible exact ih0 _ _ _ _)
      | (with_reducible exact ih1 _ _)
      | (with_reducible exact LeO.refl _)
      | (with_reducible exact LeO.none _)
      | (with_reducible refine LeO.ite ?_ ?_)
      | (with_reducible refine LeO.bind ?_ (fun _ => ?_))
      | exact ih0 _ _ _ _
      | exact ih1 _ _
      | exact LeO.none _
      | refine LeO.ite ?_ ?_
      | refine LeO.bind ?_ (fun _ => ?_)
theorem utf_Next.mono : ∀ a0 k, LeO (utf_Next.f k a0) (utf_Next.f (k + 1) a0) := by
  intro a0 k
  obtain ⟨ih0, ih1⟩ := utf_Next.mono_l k
  unfold utf_Next.f
  repeat' first
      | (with_reducible exact ih0 _ _ _ _)
      | (with_reducible exact ih1 _ _)
      | (with_reducible exact LeO.refl _)
      | (with_reducible exact LeO.none _)
      | (with_reducible refine LeO.ite ?_ ?_)
      | (with_reducible refine LeO.bind ?_ (fun _ => ?_))
      | exact ih0 _ _ _ _
      | exact ih1 _ _
      | exact LeO.none _
      | refine LeO.ite ?_ ?_
      | refine LeO.bind ?_ (fun _ => ?_)
set_option maxHeartbeats 8000000 in
set_option maxRecDepth 100000 in
theorem utf_Next.calls (k : Nat) (A0 : Option Addr) (c0 : Nat) (l0 : List Int) (r1 : Int) (r2 : Int) (r3 : Int) (w : World) (hr0 : Kd.C (Kd.int .u8) w A0 l0.length l0) (hc0 : l0.length ≤ c0) (HTab_ : Go.Proofs.YtmdeehblmkpddaaDoor.Hand.U8In w) (h : utf_Next.f k l0 = some (r1, r2, r3)) :
    Calls Tryd.prog 50 #[.slice A0 l0.length c0] w fun e w' => e = .returned (.tuple #[.int .i64 r1, .int .i64 r2, .int .i64 r3]) ∧ Below w.heap.size w w' := by
  have HR0 := Aside0.mk hr0
  have HC0 := Aside0.mk hc0
  clear hr0 hc0
  have HB := Aside0.mk (Below.refl w.heap.size w)
  have H : (if (l0.length : Int) = 0 then (some (0, 0, 6)) else ((Hand.utf8_DecodeRune.f l0).bind fun bt102 => (if bt102.1 = 65533 then (utf_Next.j0 k l0 bt102.1 bt102.2 (decide (bt102.2 > 1))) else (utf_Next.j0 k l0 bt102.1 bt102.2 true)))) = some (r1, r2, r3) := h
  clear h
  by_cases c2 : (l0.length : Int) = 0
  · rw [if_pos c2] at H
    have c2b0 : ((l0.length : Int) == 0) = true := beq_iff_eq.mpr c2
    have c2b1 : ((l0.length : Int) != 0) = false := bne_eq_false_iff_eq.mpr c2
    clear c2
    simp only [Option.some.injEq, Prod.mk.injEq] at H
    obtain ⟨rfl, rfl, rfl⟩ := H
    go_enter Tryd.func50, Tryd.ntmps50
    go_wp2
    go_ret3
    exact ⟨by first | rfl | (simp [errW_none, errW_some] <;> rfl) | (simp [*, errW_none, errW_some] <;> rfl), by repeat (first | (with_reducible first | exact HB.out | apply below_alloc | apply pw_below_drewN | apply below_drew1) | exact HB.out)⟩
  · rw [if_neg c2] at H
    have c2b0 : ((l0.length : Int) == 0) = false := beq_eq_false_iff_ne.mpr c2
    have c2b1 : ((l0.length : Int) != 0) = true := bne_iff_ne.mpr c2
    have c2b2 : ¬ (l0 = []) := fun h_ => c2 (by rw [h_]; rfl)
    replace H := Option.bind_eq_some_iff.mp H
    obtain ⟨⟨t102, t103⟩, A30, H⟩ := H
    replace H : (if t102 = 65533 then (utf_Next.j0 k l0 t102 t103 (decide (t103 > 1))) else (utf_Next.j0 k l0 t102 t103 true)) = some (r1, r2, r3) := H
    have A3 := Aside0.mk A30
    clear A30
    have HC4 := Aside0.mk H
    clear H
    go_enter Tryd.func50, Tryd.ntmps50
    go_upto_region 4 with (first | ((with_reducible refine gate_callee (f := 72) rfl ?_); refine goesL_ (some 12) rfl rfl Tryd.func72 (by kernel_rfl) rfl #[.slice A0 l0.length c0] rfl (by (try simp only [List.map_toArray, List.map_cons, List.map_nil]); first | done | rfl | (simp only [List.length_drop, List.length_take]; rfl)) ?_; (with_reducible refine (Hand.utf8_DecodeRune.calls _ _ l0 t102 t103 _ ?side1 ?side2 ?side3 A3.out).mono ?_); (case side1 => repeat (first | exact HR0.out | (with_reducible refine Kd.C_alloc ?_ _) | (with_reducible refine Kd.C_drewN ?_ _) | (with_reducible refine Kd.C_drew ?_))); (case side2 => exact HC0.out); (case side3 => exact (Go.Proofs.YtmdeehblmkpddaaDoor.Hand.U8In.below HTab_ (by repeat (first | (with_reducible first | exact HB.out | apply below_alloc | apply pw_below_drewN | apply below_drew1) | exact HB.out)))); rintro e w5 ⟨rfl, hb⟩; refine ⟨_, rfl, ?_⟩; have n0_ := Aside0.mk (below_step (by repeat (first | (with_reducible first | exact HB.out | apply below_alloc | apply pw_below_drewN | apply below_drew1) | exact HB.out)) hb); clear HB; have HB := n0_; clear n0_; (try clear hb); (try clear hb2); (try clear hk); (try clear hi)))
    (try simp only [Act.put, List.setIfInBounds_toArray, List.set_cons_zero, List.set_cons_succ])
    go_cut [20] (fun v20 wc => ∃ (kq : Nat) (x20_3 : Bool), v20 = .bool x20_3 ∧ Aside0 (utf_Next.j0 kq l0 t102 t103 x20_3 = some (r1, r2, r3)) ∧ Aside0 (kq ≤ k) ∧ Aside0 (Below w.heap.size w wc))
    case first =>
      have H := HC4.out
      clear HC4
      by_cases c6 : t102 = 65533
      · rw [if_pos c6] at H
        have c6b0 : (t102 == 65533) = true := beq_iff_eq.mpr c6
        have c6b1 : (t102 != 65533) = false := bne_eq_false_iff_eq.mpr c6
        clear c6
        (first | rw [c6b0] | (simp only [i64_w, i32_w]; rw [c6b0]) | skip)
        have H' := Aside0.mk H
        clear H
        go_wp2
        go_meet
        case rel => exact ⟨_, (decide (t103 > 1)), (by first | rfl | (simp; done) | (simp [*]; done)), H', ⟨by first | omega | exact Nat.le_refl _⟩, ⟨by repeat (first | (with_reducible first | exact HB.out | apply below_alloc | apply pw_below_drewN | apply below_drew1) | exact HB.out)⟩⟩
      · rw [if_neg c6] at H
        have c6b0 : (t102 == 65533) = false := beq_eq_false_iff_ne.mpr c6
        have c6b1 : (t102 != 65533) = true := bne_iff_ne.mpr c6
        (first | rw [c6b0] | (simp only [i64_w, i32_w]; rw [c6b0]) | skip)
        have H' := Aside0.mk H
        clear H
        go_wp2
        go_meet
        case rel => exact ⟨_, (true), (by first | rfl | (simp; done) | (simp [*]; done)), H', ⟨by first | omega | exact Nat.le_refl _⟩, ⟨by repeat (first | (with_reducible first | exact HB.out | apply below_alloc | apply pw_below_drewN | apply below_drew1) | exact HB.out)⟩⟩
    case rest =>
      clear HC4
      try clear c2
      try clear c2b0
      try clear c2b1
      try clear c2b2
      try clear p2
      try clear c5
      try clear c6
      try clear c6b0
      try clear c6b1
      obtain ⟨kq, x20_3, rfl, HA, HJ3, HB⟩ := hcut
      cases kq with
      | zero => exact absurd HA.out (by simp [utf_Next.j0])
      | succ kj3 =>
        have H := HA.out
        clear HA
        simp only [utf_Next.j0] at H
        by_cases c7 : x20_3 = true
        · subst c7
          have H1 : (some (wrap64 (t102), t103, 0)) = some (r1, r2, r3) := by rw [if_pos rfl] at H; exact H
          clear H
          have H := H1
          clear H1
          simp only [Option.some.injEq, Prod.mk.injEq] at H
          obtain ⟨rfl, rfl, rfl⟩ := H
          go_wp2
          go_ret3
          exact ⟨by first | rfl | (simp [errW_none, errW_some] <;> rfl) | (simp [*, errW_none, errW_some] <;> rfl), by repeat (first | (with_reducible first | exact HB.out | apply below_alloc | apply pw_below_drewN | apply below_drew1) | exact HB.out)⟩
        · replace c7 := Bool.eq_false_iff.mpr c7
          subst c7
          have H1 : ((utf_beginning.f l0).bind fun t104 => (if t104 = true then (some (0, (l0.length : Int), 7)) else (utf_Next.l0 kj3 l0 1))) = some (r1, r2, r3) := by rw [if_neg (show ¬ (false = true) by decide)] at H; exact H
          clear H
          have H := H1
          clear H1
          replace H := Option.bind_eq_some_iff.mp H
          obtain ⟨t104, A80, H⟩ := H
          replace H : (if t104 = true then (some (0, (l0.length : Int), 7)) else (utf_Next.l0 kj3 l0 1)) = some (r1, r2, r3) := H
          have A8 := Aside0.mk A80
          clear A80
          by_cases c9 : t104 = true
          · subst c9
            have H1 : (some (0, (l0.length : Int), 7)) = some (r1, r2, r3) := by rw [if_pos rfl] at H; exact H
            clear H
            have H := H1
            clear H1
            simp only [Option.some.injEq, Prod.mk.injEq] at H
            obtain ⟨rfl, rfl, rfl⟩ := H
            go_wp2_with (first | ((with_reducible refine gate_callee (f := 73) rfl ?_); refine goesL_ (some 25) rfl rfl Tryd.func73 (by kernel_rfl) rfl #[.slice A0 l0.length c0] rfl (by (try simp only [List.map_toArray, List.map_cons, List.map_nil]); first | done | rfl | (simp only [List.length_drop, List.length_take]; rfl)) ?_; (with_reducible refine (utf_beginning.calls _ _ l0 true _ ?side1 ?side2 ?side3 A8.out).mono ?_); (case side1 => repeat (first | exact (Kd.C_below HR0.out HB.out) | (with_reducible refine Kd.C_alloc ?_ _) | (with_reducible refine Kd.C_drewN ?_ _) | (with_reducible refine Kd.C_drew ?_))); (case side2 => exact HC0.out); (case side3 => exact (Go.Proofs.YtmdeehblmkpddaaDoor.Hand.U8In.below HTab_ (by repeat (first | (with_reducible first | exact HB.out | apply below_alloc | apply pw_below_drewN | apply below_drew1) | exact HB.out)))); rintro e w10 ⟨rfl, hb⟩; refine ⟨_, rfl, ?_⟩; have n0_ := Aside0.mk (below_step (by repeat (first | (with_reducible first | exact HB.out | apply below_alloc | apply pw_below_drewN | apply below_drew1) | exact HB.out)) hb); clear HB; have HB := n0_; clear n0_; (try clear hb); (try clear hb2); (try clear hk); (try clear hi)))
            go_ret3
            exact ⟨by first | rfl | (simp [errW_none, errW_some] <;> rfl) | (simp [*, errW_none, errW_some] <;> rfl), by repeat (first | (with_reducible first | exact HB.out | apply below_alloc | apply pw_below_drewN | apply below_drew1) | exact HB.out)⟩
          · replace c9 := Bool.eq_false_iff.mpr c9
            subst c9
            have H1 : (utf_Next.l0 kj3 l0 1) = some (r1, r2, r3) := by rw [if_neg (show ¬ (false = true) by decide)] at H; exact H
            clear H
            have H := H1
            clear H1
            have H' := Aside0.mk H
            clear H
            go_wp2_with (first | ((with_reducible refine gate_callee (f := 73) rfl ?_); refine goesL_ (some 25) rfl rfl Tryd.func73 (by kernel_rfl) rfl #[.slice A0 l0.length c0] rfl (by (try simp only [List.map_toArray, List.map_cons, List.map_nil]); first | done | rfl | (simp only [List.length_drop, List.length_take]; rfl)) ?_; (with_reducible refine (utf_beginning.calls _ _ l0 false _ ?side1 ?side2 ?side3 A8.out).mono ?_); (case side1 => repeat (first | exact (Kd.C_below HR0.out HB.out) | (with_reducible refine Kd.C_alloc ?_ _) | (with_reducible refine Kd.C_drewN ?_ _) | (with_reducible refine Kd.C_drew ?_))); (case side2 => exact HC0.out); (case side3 => exact (Go.Proofs.YtmdeehblmkpddaaDoor.Hand.U8In.below HTab_ (by repeat (first | (with_reducible first | exact HB.out | apply below_alloc | apply pw_below_drewN | apply below_drew1) | exact HB.out)))); rintro e w11 ⟨rfl, hb⟩; refine ⟨_, rfl, ?_⟩; have n0_ := Aside0.mk (below_step (by repeat (first | (with_reducible first | exact HB.out | apply below_alloc | apply pw_below_drewN | apply below_drew1) | exact HB.out)) hb); clear HB; have HB := n0_; clear n0_; (try clear hb); (try clear hb2); (try clear hk); (try clear hi)))
            go_loopg [6] kj3 (fun kq v6 w' => ∃ (x6_2 : Int), v6 = .int .i64 x6_2 ∧ Aside0 (utf_Next.l0 kq l0 x6_2 = some (r1, r2, r3)) ∧ Aside0 (kq ≤ kj3) ∧ Aside0 (Below w.heap.size w w'))
            case atStart => exact ⟨(1), (by first | rfl | (simp; done) | (simp [*]; done)), H', ⟨Nat.le_refl _⟩, ⟨by repeat (first | (with_reducible first | exact HB.out | apply below_alloc | apply pw_below_drewN | apply below_drew1) | exact HB.out)⟩⟩
            case round =>
              clear H'
              try clear c2
              try clear c2b0
              try clear c2b1
              try clear c2b2
              try clear p2
              try clear c5
              try clear c6
              try clear c6b0
              try clear c6b1
              try clear p6
              try clear c7
              try clear c9
              try clear p2
              obtain ⟨x6_2, rfl, HA, HK2, HB⟩ := hrel
              cases gk with
              | zero => exact absurd HA.out (by simp [utf_Next.l0])
              | succ k2 =>
                have H := HA.out
                clear HA
                simp only [utf_Next.l0] at H
                by_cases c12 : x6_2 < (l0.length : Int)
                · rw [if_pos c12] at H
                  have c12b0 : decide (x6_2 < (l0.length : Int)) = true := decide_eq_true c12
                  clear c12
                  obtain ⟨ji13, hji13⟩ : ∃ j_ : Int, (wrap64 (x6_2 + 1)) = j_ := ⟨_, rfl⟩
                  replace H : (if 0 ≤ (ji13) then (if (ji13) ≤ (l0.length : Int) then ((utf_beginning.f (l0.take ((ji13) : Int).toNat)).bind fun t106 => (if t106 = true then (utf_Next.l0 k2 l0 ji13) else (some (0, x6_2, 8)))) else (none)) else (none)) = some (r1, r2, r3) := by first | (rw [hji13] at H; exact H) | (simp only [hji13] at H ⊢; exact H)
                  have hji13w : (IntKind.i64.wrap (x6_2 + 1)) = ji13 := (i64_w _).trans hji13
                  by_cases c14 : 0 ≤ (ji13)
                  · rw [if_pos c14] at H
                    have c14b0 := eq_true c14
                    have c14b1 : decide (0 ≤ (ji13)) = true := decide_eq_true c14
                    clear c14
                    by_cases c15 : (ji13) ≤ (l0.length : Int)
                    · rw [if_pos c15] at H
                      have c15b0 := eq_true c15
                      have c15b1 : decide ((ji13) ≤ (l0.length : Int)) = true := decide_eq_true c15
                      clear c15
                      replace H := Option.bind_eq_some_iff.mp H
                      obtain ⟨t106, A160, H⟩ := H
                      replace H : (if t106 = true then (utf_Next.l0 k2 l0 ji13) else (some (0, x6_2, 8))) = some (r1, r2, r3) := H
                      have A16 := Aside0.mk A160
                      clear A160
                      by_cases c17 : t106 = true
                      · subst c17
                        have H1 : (utf_Next.l0 k2 l0 ji13) = some (r1, r2, r3) := by rw [if_pos rfl] at H; exact H
                        clear H
                        have H := H1
                        clear H1
                        have H' := Aside0.mk H
                        clear H
                        obtain ⟨i018, hi018, _, hsz18, _⟩ := info_parts info5
                        obtain ⟨hcut18, hA18, hC18⟩ := print_take_of (P := Tryd.prog) (Value.int .u8) 0 22 5 .i64 Tryd.underlying22 hi018 hsz18 A0 c0 l0 (ji13) (of_decide_eq_true (by first | (with_reducible assumption) | assumption)) (of_decide_eq_true (by first | (with_reducible assumption) | assumption)) HC0.out
                        have HR105 := Aside0.mk (Kd.C_of_reads (h1 := fun _ => rfl) (hA18 _ (Kd.reads_of_C HR0.out)))
                        have HC105 := Aside0.mk hC18
                        clear hA18 hC18 hi018 hsz18
                        go_wp2_with (first | (go_at_call 73; refine calls_of_args (args' := #[.slice A0 (l0.take ((ji13) : Int).toNat).length c0]) (by have b_ : (ji13 : Int) ≤ (l0.length : Int) := of_decide_eq_true (by assumption); rw [List.length_take, Nat.min_eq_left (by omega)]) ?_; (with_reducible refine (utf_beginning.calls _ _ (l0.take ((ji13) : Int).toNat) true _ ?side1 ?side2 ?side3 A16.out).mono ?_); (case side1 => repeat (first | exact (Kd.C_below HR105.out HB.out) | (with_reducible refine Kd.C_alloc ?_ _) | (with_reducible refine Kd.C_drewN ?_ _) | (with_reducible refine Kd.C_drew ?_))); (case side2 => exact HC105.out); (case side3 => exact (Go.Proofs.YtmdeehblmkpddaaDoor.Hand.U8In.below HTab_ (by repeat (first | (with_reducible first | exact HB.out | apply below_alloc | apply pw_below_drewN | apply below_drew1) | exact HB.out)))); rintro e w19 ⟨rfl, hb⟩; have n0_ := Aside0.mk (below_step (by repeat (first | (with_reducible first | exact HB.out | apply below_alloc | apply pw_below_drewN | apply below_drew1) | exact HB.out)) hb); clear HB; have HB := n0_; clear n0_; (try clear hb); (try clear hb2); (try clear hk); (try clear hi)))
                        go_roundg k2
                        case measure => have := HJ3.out; have := HK2.out; omega
                        case rel => exact ⟨(ji13), (by first | rfl | (simp; done) | (simp only [← hji13] <;> (first | rfl | simp)) | (simp [*]; done)), H', ⟨by have := HJ3.out; have := HK2.out; omega⟩, ⟨by repeat (first | (with_reducible first | exact HB.out | apply below_alloc | apply pw_below_drewN | apply below_drew1) | exact HB.out)⟩⟩
                      · replace c17 := Bool.eq_false_iff.mpr c17
                        subst c17
                        have H1 : (some (0, x6_2, 8)) = some (r1, r2, r3) := by rw [if_neg (show ¬ (false = true) by decide)] at H; exact H
                        clear H
                        have H := H1
                        clear H1
                        simp only [Option.some.injEq, Prod.mk.injEq] at H
                        obtain ⟨rfl, rfl, rfl⟩ := H
                        obtain ⟨i020, hi020, _, hsz20, _⟩ := info_parts info5
                        obtain ⟨hcut20, hA20, hC20⟩ := print_take_of (P := Tryd.prog) (Value.int .u8) 0 22 5 .i64 Tryd.underlying22 hi020 hsz20 A0 c0 l0 (ji13) (of_decide_eq_true (by first | (with_reducible assumption) | assumption)) (of_decide_eq_true (by first | (with_reducible assumption) | assumption)) HC0.out
                        have HR105 := Aside0.mk (Kd.C_of_reads (h1 := fun _ => rfl) (hA20 _ (Kd.reads_of_C HR0.out)))
                        have HC105 := Aside0.mk hC20
                        clear hA20 hC20 hi020 hsz20
                        go_wp2_with (first | (go_at_call 73; refine calls_of_args (args' := #[.slice A0 (l0.take ((ji13) : Int).toNat).length c0]) (by have b_ : (ji13 : Int) ≤ (l0.length : Int) := of_decide_eq_true (by assumption); rw [List.length_take, Nat.min_eq_left (by omega)]) ?_; (with_reducible refine (utf_beginning.calls _ _ (l0.take ((ji13) : Int).toNat) false _ ?side1 ?side2 ?side3 A16.out).mono ?_); (case side1 => repeat (first | exact (Kd.C_below HR105.out HB.out) | (with_reducible refine Kd.C_alloc ?_ _) | (with_reducible refine Kd.C_drewN ?_ _) | (with_reducible refine Kd.C_drew ?_))); (case side2 => exact HC105.out); (case side3 => exact (Go.Proofs.YtmdeehblmkpddaaDoor.Hand.U8In.below HTab_ (by repeat (first | (with_reducible first | exact HB.out | apply below_alloc | apply pw_below_drewN | apply below_drew1) | exact HB.out)))); rintro e w21 ⟨rfl, hb⟩; have n0_ := Aside0.mk (below_step (by repeat (first | (with_reducible first | exact HB.out | apply below_alloc | apply pw_below_drewN | apply below_drew1) | exact HB.out)) hb); clear HB; have HB := n0_; clear n0_; (try clear hb); (try clear hb2); (try clear hk); (try clear hi)))
                        go_ret3
                        exact ⟨by first | rfl | (simp [errW_none, errW_some] <;> rfl) | (simp only [← hji13]; first | rfl | (simp [errW_none, errW_some] <;> rfl)) | (simp [*, errW_none, errW_some] <;> rfl), by repeat (first | (with_reducible first | exact HB.out | apply below_alloc | apply pw_below_drewN | apply below_drew1) | exact HB.out)⟩
                    · rw [if_neg c15] at H
                      exact absurd H (by simp)
                  · rw [if_neg c14] at H
                    exact absurd H (by simp)
                · rw [if_neg c12] at H
                  have c12b0 : decide (x6_2 < (l0.length : Int)) = false := decide_eq_false c12
                  clear c12
                  simp only [Option.some.injEq, Prod.mk.injEq] at H
                  obtain ⟨rfl, rfl, rfl⟩ := H
                  go_wp2
                  go_ret3
                  exact ⟨by first | rfl | (simp [errW_none, errW_some] <;> rfl) | (simp [*, errW_none, errW_some] <;> rfl), by repeat (first | (with_reducible first | exact HB.out | apply below_alloc | apply pw_below_drewN | apply below_drew1) | exact HB.out)⟩

end Go.Proofs.YtmdeehblmkpddaaDoor.PNext
