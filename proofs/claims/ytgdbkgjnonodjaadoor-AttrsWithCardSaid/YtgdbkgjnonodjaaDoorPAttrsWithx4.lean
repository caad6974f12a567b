-- Printed by a changed copy of the kit's print program that takes contracts proved by hand. Not trusted: Lean checks it.
import Derived.Test.YtgdbkgjnonodjaaDoorPAttrsWithx0
import Derived.Test.YtgdbkgjnonodjaaDoorPAttrsWithx1
import Derived.Test.YtgdbkgjnonodjaaDoorPAttrsWithx3
namespace Go.Proofs.YtgdbkgjnonodjaaDoor.PAttrsWith
open Go.RowKit Go.Proofs.YtgdbkgjnonodjaaDoorW.PrintWords Go.Proofs.YtgdbkgjnonodjaaDoorW.PrintLast Go.Proofs.YtgdbkgjnonodjaaDoorW.PrintMore
attribute [local go_sem] max2_int min2_int max_two min_two max_three min_three max_four min_four   -- for this text's walks alone
set_option linter.unusedVariables false
set_option linter.unusedSimpArgs false

attribute [local go_sem high] eqA24
set_option maxHeartbeats 8000000 in
set_option maxRecDepth 100000 in
theorem whispererlaw06_AttrsWith.callsN (a0_0 : Int) (a0_1 : Int) (a0_2 : Int) (a1 : Int) (a2 : Int) (r : Bool) (hr_ : r = true) (hc10_ : ¬ a1 = 0) (w : World) (HTab_ : Go.Proofs.YtgdbkgjnonodjaaDoor.Hand.TabA w) (h : whispererlaw06_AttrsWith.f a0_0 a0_1 a0_2 a1 a2 = some r) :
    Calls Tryd.prog 7 #[.agg #[.int .u32 a0_0, .int .u8 a0_1, .int .u8 a0_2], .int .u32 a1, .int .u32 a2] w fun e w' => e = .returned (.bool r) ∧ Below w.heap.size w w' := by
  have hrA_ := Aside0.mk hr_
  clear hr_
  have hc10A_ := Aside0.mk hc10_
  clear hc10_
  have hu24 := Tryd.underlying24
  have HB := Aside0.mk (Below.refl w.heap.size w)
  have H : ((attrs_With.f a0_0 a0_1 a0_2 a1 true).bind fun bt116 => ((attrs_With.f a0_0 a0_1 a0_2 a1 false).bind fun bt119 => ((whispererlaw06_alive.f).bind fun t124 => (if t124 = true then ((attrs_Has.f bt116.1 bt116.2.1 bt116.2.2 a1).bind fun t125 => (if t125 = true then (if a1 = 0 then ((attrs_Has.f bt116.1 bt116.2.1 bt116.2.2 (Go.bits .andNot .u32 a2 a1)).bind fun t126 => ((attrs_Has.f a0_0 a0_1 a0_2 (Go.bits .andNot .u32 a2 a1)).bind fun t127 => (if (t126 == t127) = true then ((attrs_Has.f bt119.1 bt119.2.1 bt119.2.2 (Go.bits .andNot .u32 a2 a1)).bind fun t128 => ((attrs_Has.f a0_0 a0_1 a0_2 (Go.bits .andNot .u32 a2 a1)).bind fun t129 => (if (t128 == t129) = true then ((attrs_With.f bt116.1 bt116.2.1 bt116.2.2 a1 true).bind fun bt130 => (if (bt130.1 == bt116.1 && (bt130.2.1 == bt116.2.1 && (bt130.2.2 == bt116.2.2))) = true then ((attrs_With.f bt116.1 bt116.2.1 bt116.2.2 a1 false).bind fun bt133 => (if (bt133.1 == bt119.1 && (bt133.2.1 == bt119.2.1 && (bt133.2.2 == bt119.2.2))) = true then (if bt116.2.1 = a0_1 then (some (bt119.2.2 == a0_2)) else (some false)) else (some false))) else (some false))) else (some false)))) else (some false)))) else ((attrs_Has.f bt119.1 bt119.2.1 bt119.2.2 a1).bind fun t136 => (if t136 = true then (some false) else ((attrs_Has.f bt116.1 bt116.2.1 bt116.2.2 (Go.bits .andNot .u32 a2 a1)).bind fun t137 => ((attrs_Has.f a0_0 a0_1 a0_2 (Go.bits .andNot .u32 a2 a1)).bind fun t138 => (if (t137 == t138) = true then ((attrs_Has.f bt119.1 bt119.2.1 bt119.2.2 (Go.bits .andNot .u32 a2 a1)).bind fun t139 => ((attrs_Has.f a0_0 a0_1 a0_2 (Go.bits .andNot .u32 a2 a1)).bind fun t140 => (if (t139 == t140) = true then ((attrs_With.f bt116.1 bt116.2.1 bt116.2.2 a1 true).bind fun bt141 => (if (bt141.1 == bt116.1 && (bt141.2.1 == bt116.2.1 && (bt141.2.2 == bt116.2.2))) = true then ((attrs_With.f bt116.1 bt116.2.1 bt116.2.2 a1 false).bind fun bt144 => (if (bt144.1 == bt119.1 && (bt144.2.1 == bt119.2.1 && (bt144.2.2 == bt119.2.2))) = true then (if bt116.2.1 = a0_1 then (some (bt119.2.2 == a0_2)) else (some false)) else (some false))) else (some false))) else (some false)))) else (some false))))))) else (some false))) else (some false))))) = some r := h
  clear h
  replace H := Option.bind_eq_some_iff.mp H
  obtain ⟨⟨t116, t117, t118⟩, A40, H⟩ := H
  replace H : ((attrs_With.f a0_0 a0_1 a0_2 a1 false).bind fun bt119 => ((whispererlaw06_alive.f).bind fun t124 => (if t124 = true then ((attrs_Has.f t116 t117 t118 a1).bind fun t125 => (if t125 = true then (if a1 = 0 then ((attrs_Has.f t116 t117 t118 (Go.bits .andNot .u32 a2 a1)).bind fun t126 => ((attrs_Has.f a0_0 a0_1 a0_2 (Go.bits .andNot .u32 a2 a1)).bind fun t127 => (if (t126 == t127) = true then ((attrs_Has.f bt119.1 bt119.2.1 bt119.2.2 (Go.bits .andNot .u32 a2 a1)).bind fun t128 => ((attrs_Has.f a0_0 a0_1 a0_2 (Go.bits .andNot .u32 a2 a1)).bind fun t129 => (if (t128 == t129) = true then ((attrs_With.f t116 t117 t118 a1 true).bind fun bt130 => (if (bt130.1 == t116 && (bt130.2.1 == t117 && (bt130.2.2 == t118))) = true then ((attrs_With.f t116 t117 t118 a1 false).bind fun bt133 => (if (bt133.1 == bt119.1 && (bt133.2.1 == bt119.2.1 && (bt133.2.2 == bt119.2.2))) = true then (if t117 = a0_1 then (some (bt119.2.2 == a0_2)) else (some false)) else (some false))) else (some false))) else (some false)))) else (some false)))) else ((attrs_Has.f bt119.1 bt119.2.1 bt119.2.2 a1).bind fun t136 => (if t136 = true then (some false) else ((attrs_Has.f t116 t117 t118 (Go.bits .andNot .u32 a2 a1)).bind fun t137 => ((attrs_Has.f a0_0 a0_1 a0_2 (Go.bits .andNot .u32 a2 a1)).bind fun t138 => (if (t137 == t138) = true then ((attrs_Has.f bt119.1 bt119.2.1 bt119.2.2 (Go.bits .andNot .u32 a2 a1)).bind fun t139 => ((attrs_Has.f a0_0 a0_1 a0_2 (Go.bits .andNot .u32 a2 a1)).bind fun t140 => (if (t139 == t140) = true then ((attrs_With.f t116 t117 t118 a1 true).bind fun bt141 => (if (bt141.1 == t116 && (bt141.2.1 == t117 && (bt141.2.2 == t118))) = true then ((attrs_With.f t116 t117 t118 a1 false).bind fun bt144 => (if (bt144.1 == bt119.1 && (bt144.2.1 == bt119.2.1 && (bt144.2.2 == bt119.2.2))) = true then (if t117 = a0_1 then (some (bt119.2.2 == a0_2)) else (some false)) else (some false))) else (some false))) else (some false)))) else (some false))))))) else (some false))) else (some false)))) = some r := H
  have A4 := Aside0.mk A40
  clear A40
  replace H := Option.bind_eq_some_iff.mp H
  obtain ⟨⟨t119, t120, t121⟩, A50, H⟩ := H
  replace H : ((whispererlaw06_alive.f).bind fun t124 => (if t124 = true then ((attrs_Has.f t116 t117 t118 a1).bind fun t125 => (if t125 = true then (if a1 = 0 then ((attrs_Has.f t116 t117 t118 (Go.bits .andNot .u32 a2 a1)).bind fun t126 => ((attrs_Has.f a0_0 a0_1 a0_2 (Go.bits .andNot .u32 a2 a1)).bind fun t127 => (if (t126 == t127) = true then ((attrs_Has.f t119 t120 t121 (Go.bits .andNot .u32 a2 a1)).bind fun t128 => ((attrs_Has.f a0_0 a0_1 a0_2 (Go.bits .andNot .u32 a2 a1)).bind fun t129 => (if (t128 == t129) = true then ((attrs_With.f t116 t117 t118 a1 true).bind fun bt130 => (if (bt130.1 == t116 && (bt130.2.1 == t117 && (bt130.2.2 == t118))) = true then ((attrs_With.f t116 t117 t118 a1 false).bind fun bt133 => (if (bt133.1 == t119 && (bt133.2.1 == t120 && (bt133.2.2 == t121))) = true then (if t117 = a0_1 then (some (t121 == a0_2)) else (some false)) else (some false))) else (some false))) else (some false)))) else (some false)))) else ((attrs_Has.f t119 t120 t121 a1).bind fun t136 => (if t136 = true then (some false) else ((attrs_Has.f t116 t117 t118 (Go.bits .andNot .u32 a2 a1)).bind fun t137 => ((attrs_Has.f a0_0 a0_1 a0_2 (Go.bits .andNot .u32 a2 a1)).bind fun t138 => (if (t137 == t138) = true then ((attrs_Has.f t119 t120 t121 (Go.bits .andNot .u32 a2 a1)).bind fun t139 => ((attrs_Has.f a0_0 a0_1 a0_2 (Go.bits .andNot .u32 a2 a1)).bind fun t140 => (if (t139 == t140) = true then ((attrs_With.f t116 t117 t118 a1 true).bind fun bt141 => (if (bt141.1 == t116 && (bt141.2.1 == t117 && (bt141.2.2 == t118))) = true then ((attrs_With.f t116 t117 t118 a1 false).bind fun bt144 => (if (bt144.1 == t119 && (bt144.2.1 == t120 && (bt144.2.2 == t121))) = true then (if t117 = a0_1 then (some (t121 == a0_2)) else (some false)) else (some false))) else (some false))) else (some false)))) else (some false))))))) else (some false))) else (some false))) = some r := H
  have A5 := Aside0.mk A50
  clear A50
  replace H := Option.bind_eq_some_iff.mp H
  obtain ⟨t124, A60, H⟩ := H
  replace H : (if t124 = true then ((attrs_Has.f t116 t117 t118 a1).bind fun t125 => (if t125 = true then (if a1 = 0 then ((attrs_Has.f t116 t117 t118 (Go.bits .andNot .u32 a2 a1)).bind fun t126 => ((attrs_Has.f a0_0 a0_1 a0_2 (Go.bits .andNot .u32 a2 a1)).bind fun t127 => (if (t126 == t127) = true then ((attrs_Has.f t119 t120 t121 (Go.bits .andNot .u32 a2 a1)).bind fun t128 => ((attrs_Has.f a0_0 a0_1 a0_2 (Go.bits .andNot .u32 a2 a1)).bind fun t129 => (if (t128 == t129) = true then ((attrs_With.f t116 t117 t118 a1 true).bind fun bt130 => (if (bt130.1 == t116 && (bt130.2.1 == t117 && (bt130.2.2 == t118))) = true then ((attrs_With.f t116 t117 t118 a1 false).bind fun bt133 => (if (bt133.1 == t119 && (bt133.2.1 == t120 && (bt133.2.2 == t121))) = true then (if t117 = a0_1 then (some (t121 == a0_2)) else (some false)) else (some false))) else (some false))) else (some false)))) else (some false)))) else ((attrs_Has.f t119 t120 t121 a1).bind fun t136 => (if t136 = true then (some false) else ((attrs_Has.f t116 t117 t118 (Go.bits .andNot .u32 a2 a1)).bind fun t137 => ((attrs_Has.f a0_0 a0_1 a0_2 (Go.bits .andNot .u32 a2 a1)).bind fun t138 => (if (t137 == t138) = true then ((attrs_Has.f t119 t120 t121 (Go.bits .andNot .u32 a2 a1)).bind fun t139 => ((attrs_Has.f a0_0 a0_1 a0_2 (Go.bits .andNot .u32 a2 a1)).bind fun t140 => (if (t139 == t140) = true then ((attrs_With.f t116 t117 t118 a1 true).bind fun bt141 => (if (bt141.1 == t116 && (bt141.2.1 == t117 && (bt141.2.2 == t118))) = true then ((attrs_With.f t116 t117 t118 a1 false).bind fun bt144 => (if (bt144.1 == t119 && (bt144.2.1 == t120 && (bt144.2.2 == t121))) = true then (if t117 = a0_1 then (some (t121 == a0_2)) else (some false)) else (some false))) else (some false))) else (some false)))) else (some false))))))) else (some false))) else (some false)) = some r := H
  have A6 := Aside0.mk A60
  clear A60
  by_cases c7 : t124 = true
  · subst c7
    have H1 : ((attrs_Has.f t116 t117 t118 a1).bind fun t125 => (if t125 = true then (if a1 = 0 then ((attrs_Has.f t116 t117 t118 (Go.bits .andNot .u32 a2 a1)).bind fun t126 => ((attrs_Has.f a0_0 a0_1 a0_2 (Go.bits .andNot .u32 a2 a1)).bind fun t127 => (if (t126 == t127) = true then ((attrs_Has.f t119 t120 t121 (Go.bits .andNot .u32 a2 a1)).bind fun t128 => ((attrs_Has.f a0_0 a0_1 a0_2 (Go.bits .andNot .u32 a2 a1)).bind fun t129 => (if (t128 == t129) = true then ((attrs_With.f t116 t117 t118 a1 true).bind fun bt130 => (if (bt130.1 == t116 && (bt130.2.1 == t117 && (bt130.2.2 == t118))) = true then ((attrs_With.f t116 t117 t118 a1 false).bind fun bt133 => (if (bt133.1 == t119 && (bt133.2.1 == t120 && (bt133.2.2 == t121))) = true then (if t117 = a0_1 then (some (t121 == a0_2)) else (some false)) else (some false))) else (some false))) else (some false)))) else (some false)))) else ((attrs_Has.f t119 t120 t121 a1).bind fun t136 => (if t136 = true then (some false) else ((attrs_Has.f t116 t117 t118 (Go.bits .andNot .u32 a2 a1)).bind fun t137 => ((attrs_Has.f a0_0 a0_1 a0_2 (Go.bits .andNot .u32 a2 a1)).bind fun t138 => (if (t137 == t138) = true then ((attrs_Has.f t119 t120 t121 (Go.bits .andNot .u32 a2 a1)).bind fun t139 => ((attrs_Has.f a0_0 a0_1 a0_2 (Go.bits .andNot .u32 a2 a1)).bind fun t140 => (if (t139 == t140) = true then ((attrs_With.f t116 t117 t118 a1 true).bind fun bt141 => (if (bt141.1 == t116 && (bt141.2.1 == t117 && (bt141.2.2 == t118))) = true then ((attrs_With.f t116 t117 t118 a1 false).bind fun bt144 => (if (bt144.1 == t119 && (bt144.2.1 == t120 && (bt144.2.2 == t121))) = true then (if t117 = a0_1 then (some (t121 == a0_2)) else (some false)) else (some false))) else (some false))) else (some false)))) else (some false))))))) else (some false))) = some r := by rw [if_pos rfl] at H; exact H
    clear H
    have H := H1
    clear H1
    replace H := Option.bind_eq_some_iff.mp H
    obtain ⟨t125, A80, H⟩ := H
    replace H : (if t125 = true then (if a1 = 0 then ((attrs_Has.f t116 t117 t118 (Go.bits .andNot .u32 a2 a1)).bind fun t126 => ((attrs_Has.f a0_0 a0_1 a0_2 (Go.bits .andNot .u32 a2 a1)).bind fun t127 => (if (t126 == t127) = true then ((attrs_Has.f t119 t120 t121 (Go.bits .andNot .u32 a2 a1)).bind fun t128 => ((attrs_Has.f a0_0 a0_1 a0_2 (Go.bits .andNot .u32 a2 a1)).bind fun t129 => (if (t128 == t129) = true then ((attrs_With.f t116 t117 t118 a1 true).bind fun bt130 => (if (bt130.1 == t116 && (bt130.2.1 == t117 && (bt130.2.2 == t118))) = true then ((attrs_With.f t116 t117 t118 a1 false).bind fun bt133 => (if (bt133.1 == t119 && (bt133.2.1 == t120 && (bt133.2.2 == t121))) = true then (if t117 = a0_1 then (some (t121 == a0_2)) else (some false)) else (some false))) else (some false))) else (some false)))) else (some false)))) else ((attrs_Has.f t119 t120 t121 a1).bind fun t136 => (if t136 = true then (some false) else ((attrs_Has.f t116 t117 t118 (Go.bits .andNot .u32 a2 a1)).bind fun t137 => ((attrs_Has.f a0_0 a0_1 a0_2 (Go.bits .andNot .u32 a2 a1)).bind fun t138 => (if (t137 == t138) = true then ((attrs_Has.f t119 t120 t121 (Go.bits .andNot .u32 a2 a1)).bind fun t139 => ((attrs_Has.f a0_0 a0_1 a0_2 (Go.bits .andNot .u32 a2 a1)).bind fun t140 => (if (t139 == t140) = true then ((attrs_With.f t116 t117 t118 a1 true).bind fun bt141 => (if (bt141.1 == t116 && (bt141.2.1 == t117 && (bt141.2.2 == t118))) = true then ((attrs_With.f t116 t117 t118 a1 false).bind fun bt144 => (if (bt144.1 == t119 && (bt144.2.1 == t120 && (bt144.2.2 == t121))) = true then (if t117 = a0_1 then (some (t121 == a0_2)) else (some false)) else (some false))) else (some false))) else (some false)))) else (some false))))))) else (some false)) = some r := H
    have A8 := Aside0.mk A80
    clear A80
    by_cases c9 : t125 = true
    · subst c9
      have H1 : (if a1 = 0 then ((attrs_Has.f t116 t117 t118 (Go.bits .andNot .u32 a2 a1)).bind fun t126 => ((attrs_Has.f a0_0 a0_1 a0_2 (Go.bits .andNot .u32 a2 a1)).bind fun t127 => (if (t126 == t127) = true then ((attrs_Has.f t119 t120 t121 (Go.bits .andNot .u32 a2 a1)).bind fun t128 => ((attrs_Has.f a0_0 a0_1 a0_2 (Go.bits .andNot .u32 a2 a1)).bind fun t129 => (if (t128 == t129) = true then ((attrs_With.f t116 t117 t118 a1 true).bind fun bt130 => (if (bt130.1 == t116 && (bt130.2.1 == t117 && (bt130.2.2 == t118))) = true then ((attrs_With.f t116 t117 t118 a1 false).bind fun bt133 => (if (bt133.1 == t119 && (bt133.2.1 == t120 && (bt133.2.2 == t121))) = true then (if t117 = a0_1 then (some (t121 == a0_2)) else (some false)) else (some false))) else (some false))) else (some false)))) else (some false)))) else ((attrs_Has.f t119 t120 t121 a1).bind fun t136 => (if t136 = true then (some false) else ((attrs_Has.f t116 t117 t118 (Go.bits .andNot .u32 a2 a1)).bind fun t137 => ((attrs_Has.f a0_0 a0_1 a0_2 (Go.bits .andNot .u32 a2 a1)).bind fun t138 => (if (t137 == t138) = true then ((attrs_Has.f t119 t120 t121 (Go.bits .andNot .u32 a2 a1)).bind fun t139 => ((attrs_Has.f a0_0 a0_1 a0_2 (Go.bits .andNot .u32 a2 a1)).bind fun t140 => (if (t139 == t140) = true then ((attrs_With.f t116 t117 t118 a1 true).bind fun bt141 => (if (bt141.1 == t116 && (bt141.2.1 == t117 && (bt141.2.2 == t118))) = true then ((attrs_With.f t116 t117 t118 a1 false).bind fun bt144 => (if (bt144.1 == t119 && (bt144.2.1 == t120 && (bt144.2.2 == t121))) = true then (if t117 = a0_1 then (some (t121 == a0_2)) else (some false)) else (some false))) else (some false))) else (some false)))) else (some false))))))) = some r := by rw [if_pos rfl] at H; exact H
      clear H
      have H := H1
      clear H1
      by_cases c10 : a1 = 0
      · exact absurd c10 hc10A_.out
      · rw [if_neg c10] at H
        have c10b0 : (a1 == 0) = false := beq_eq_false_iff_ne.mpr c10
        have c10b1 : (a1 != 0) = true := bne_iff_ne.mpr c10
        replace H := Option.bind_eq_some_iff.mp H
        obtain ⟨t136, A1530, H⟩ := H
        replace H : (if t136 = true then (some false) else ((attrs_Has.f t116 t117 t118 (Go.bits .andNot .u32 a2 a1)).bind fun t137 => ((attrs_Has.f a0_0 a0_1 a0_2 (Go.bits .andNot .u32 a2 a1)).bind fun t138 => (if (t137 == t138) = true then ((attrs_Has.f t119 t120 t121 (Go.bits .andNot .u32 a2 a1)).bind fun t139 => ((attrs_Has.f a0_0 a0_1 a0_2 (Go.bits .andNot .u32 a2 a1)).bind fun t140 => (if (t139 == t140) = true then ((attrs_With.f t116 t117 t118 a1 true).bind fun bt141 => (if (bt141.1 == t116 && (bt141.2.1 == t117 && (bt141.2.2 == t118))) = true then ((attrs_With.f t116 t117 t118 a1 false).bind fun bt144 => (if (bt144.1 == t119 && (bt144.2.1 == t120 && (bt144.2.2 == t121))) = true then (if t117 = a0_1 then (some (t121 == a0_2)) else (some false)) else (some false))) else (some false))) else (some false)))) else (some false))))) = some r := H
        have A153 := Aside0.mk A1530
        clear A1530
        by_cases c154 : t136 = true
        · subst c154
          have H1 : (some false) = some r := by rw [if_pos rfl] at H; exact H
          clear H
          have H := H1
          clear H1
          exact absurd ((Option.some.inj H).trans hrA_.out) (by decide)
        · replace c154 := Bool.eq_false_iff.mpr c154
          subst c154
          have H1 : ((attrs_Has.f t116 t117 t118 (Go.bits .andNot .u32 a2 a1)).bind fun t137 => ((attrs_Has.f a0_0 a0_1 a0_2 (Go.bits .andNot .u32 a2 a1)).bind fun t138 => (if (t137 == t138) = true then ((attrs_Has.f t119 t120 t121 (Go.bits .andNot .u32 a2 a1)).bind fun t139 => ((attrs_Has.f a0_0 a0_1 a0_2 (Go.bits .andNot .u32 a2 a1)).bind fun t140 => (if (t139 == t140) = true then ((attrs_With.f t116 t117 t118 a1 true).bind fun bt141 => (if (bt141.1 == t116 && (bt141.2.1 == t117 && (bt141.2.2 == t118))) = true then ((attrs_With.f t116 t117 t118 a1 false).bind fun bt144 => (if (bt144.1 == t119 && (bt144.2.1 == t120 && (bt144.2.2 == t121))) = true then (if t117 = a0_1 then (some (t121 == a0_2)) else (some false)) else (some false))) else (some false))) else (some false)))) else (some false)))) = some r := by rw [if_neg (show ¬ (false = true) by decide)] at H; exact H
          clear H
          have H := H1
          clear H1
          replace H := Option.bind_eq_some_iff.mp H
          obtain ⟨t137, A1730, H⟩ := H
          replace H : ((attrs_Has.f a0_0 a0_1 a0_2 (Go.bits .andNot .u32 a2 a1)).bind fun t138 => (if (t137 == t138) = true then ((attrs_Has.f t119 t120 t121 (Go.bits .andNot .u32 a2 a1)).bind fun t139 => ((attrs_Has.f a0_0 a0_1 a0_2 (Go.bits .andNot .u32 a2 a1)).bind fun t140 => (if (t139 == t140) = true then ((attrs_With.f t116 t117 t118 a1 true).bind fun bt141 => (if (bt141.1 == t116 && (bt141.2.1 == t117 && (bt141.2.2 == t118))) = true then ((attrs_With.f t116 t117 t118 a1 false).bind fun bt144 => (if (bt144.1 == t119 && (bt144.2.1 == t120 && (bt144.2.2 == t121))) = true then (if t117 = a0_1 then (some (t121 == a0_2)) else (some false)) else (some false))) else (some false))) else (some false)))) else (some false))) = some r := H
          have A173 := Aside0.mk A1730
          clear A1730
          replace H := Option.bind_eq_some_iff.mp H
          obtain ⟨t138, A1740, H⟩ := H
          replace H : (if (t137 == t138) = true then ((attrs_Has.f t119 t120 t121 (Go.bits .andNot .u32 a2 a1)).bind fun t139 => ((attrs_Has.f a0_0 a0_1 a0_2 (Go.bits .andNot .u32 a2 a1)).bind fun t140 => (if (t139 == t140) = true then ((attrs_With.f t116 t117 t118 a1 true).bind fun bt141 => (if (bt141.1 == t116 && (bt141.2.1 == t117 && (bt141.2.2 == t118))) = true then ((attrs_With.f t116 t117 t118 a1 false).bind fun bt144 => (if (bt144.1 == t119 && (bt144.2.1 == t120 && (bt144.2.2 == t121))) = true then (if t117 = a0_1 then (some (t121 == a0_2)) else (some false)) else (some false))) else (some false))) else (some false)))) else (some false)) = some r := H
          have A174 := Aside0.mk A1740
          clear A1740
          by_cases c175 : (t137 == t138) = true
          · rw [if_pos c175] at H
            have c175b0 : (t137 == t138) = true := c175
            (try (have c175b1 : decide (t137 = t138) = true := by simpa using c175))
            (try (have c175b2 : (t137 == t138) = true := by simpa using c175))
            clear c175
            replace H := Option.bind_eq_some_iff.mp H
            obtain ⟨t139, A1760, H⟩ := H
            replace H : ((attrs_Has.f a0_0 a0_1 a0_2 (Go.bits .andNot .u32 a2 a1)).bind fun t140 => (if (t139 == t140) = true then ((attrs_With.f t116 t117 t118 a1 true).bind fun bt141 => (if (bt141.1 == t116 && (bt141.2.1 == t117 && (bt141.2.2 == t118))) = true then ((attrs_With.f t116 t117 t118 a1 false).bind fun bt144 => (if (bt144.1 == t119 && (bt144.2.1 == t120 && (bt144.2.2 == t121))) = true then (if t117 = a0_1 then (some (t121 == a0_2)) else (some false)) else (some false))) else (some false))) else (some false))) = some r := H
            have A176 := Aside0.mk A1760
            clear A1760
            replace H := Option.bind_eq_some_iff.mp H
            obtain ⟨t140, A1770, H⟩ := H
            replace H : (if (t139 == t140) = true then ((attrs_With.f t116 t117 t118 a1 true).bind fun bt141 => (if (bt141.1 == t116 && (bt141.2.1 == t117 && (bt141.2.2 == t118))) = true then ((attrs_With.f t116 t117 t118 a1 false).bind fun bt144 => (if (bt144.1 == t119 && (bt144.2.1 == t120 && (bt144.2.2 == t121))) = true then (if t117 = a0_1 then (some (t121 == a0_2)) else (some false)) else (some false))) else (some false))) else (some false)) = some r := H
            have A177 := Aside0.mk A1770
            clear A1770
            by_cases c178 : (t139 == t140) = true
            · rw [if_pos c178] at H
              have c178b0 : (t139 == t140) = true := c178
              (try (have c178b1 : decide (t139 = t140) = true := by simpa using c178))
              (try (have c178b2 : (t139 == t140) = true := by simpa using c178))
              clear c178
              replace H := Option.bind_eq_some_iff.mp H
              obtain ⟨⟨t141, t142, t143⟩, A1790, H⟩ := H
              replace H : (if (t141 == t116 && (t142 == t117 && (t143 == t118))) = true then ((attrs_With.f t116 t117 t118 a1 false).bind fun bt144 => (if (bt144.1 == t119 && (bt144.2.1 == t120 && (bt144.2.2 == t121))) = true then (if t117 = a0_1 then (some (t121 == a0_2)) else (some false)) else (some false))) else (some false)) = some r := H
              have A179 := Aside0.mk A1790
              clear A1790
              by_cases c180 : (t141 == t116 && (t142 == t117 && (t143 == t118))) = true
              · rw [if_pos c180] at H
                have c180b0 : (t141 == t116 && (t142 == t117 && (t143 == t118))) = true := c180
                (try (have c180b1 : decide (t141 = t116 && (t142 == t117 && (t143 == t118))) = true := by simpa using c180))
                (try (have c180b2 : (t141 == t116 && (t142 == t117 && (t143 == t118))) = true := by simpa using c180))
                clear c180
                replace H := Option.bind_eq_some_iff.mp H
                obtain ⟨⟨t144, t145, t146⟩, A1810, H⟩ := H
                replace H : (if (t144 == t119 && (t145 == t120 && (t146 == t121))) = true then (if t117 = a0_1 then (some (t121 == a0_2)) else (some false)) else (some false)) = some r := H
                have A181 := Aside0.mk A1810
                clear A1810
                by_cases c182 : (t144 == t119 && (t145 == t120 && (t146 == t121))) = true
                · rw [if_pos c182] at H
                  have c182b0 : (t144 == t119 && (t145 == t120 && (t146 == t121))) = true := c182
                  (try (have c182b1 : decide (t144 = t119 && (t145 == t120 && (t146 == t121))) = true := by simpa using c182))
                  (try (have c182b2 : (t144 == t119 && (t145 == t120 && (t146 == t121))) = true := by simpa using c182))
                  clear c182
                  by_cases c183 : t117 = a0_1
                  · rw [if_pos c183] at H
                    have c183b0 : (t117 == a0_1) = true := beq_iff_eq.mpr c183
                    have c183b1 : (t117 != a0_1) = false := bne_eq_false_iff_eq.mpr c183
                    clear c183
                    obtain rfl := Option.some.inj H
                    go_enter Tryd.func7, Tryd.ntmps7
                    try go_wp2_with (first | ((with_reducible refine gate_dst (N := 3) rfl ?_); refine box_event ?hg (N := 3) ?hd (cs := #[.int .u32 a0_0, .int .u8 a0_1, .int .u8 a0_2]) (t := 24) ?hr ?_; (case hd => rfl); (case hg => rfl); (case hr => first | (go_simp; done) | (go_simp; rfl)); intro gb115 hg w184 hbox hb; have n0_ := Aside0.mk (below_step (by repeat (first | (with_reducible first | exact HB.out | apply below_alloc | apply pw_below_drewN | apply below_drew1) | exact HB.out)) hb); have n1_ := Aside0.mk (hbox); have n2_ := Aside0.mk ((by rw [hg]; exact (below_size (by repeat (first | (with_reducible first | exact HB.out | apply below_alloc | apply pw_below_drewN | apply below_drew1) | exact HB.out))) : w.heap.size ≤ gb115)); have n3_ := Aside0.mk ((by rw [hg]; exact (below_size (by repeat (first | (with_reducible first | exact HB.out | apply below_alloc | apply pw_below_drewN | apply below_drew1) | exact HB.out))) : w.heap.size ≤ gb115)); clear HB; have HB := n0_; have BK115 := n1_; have GW115 := n2_; have GE115 := n3_; clear n0_ n1_ n2_ n3_; clear hb hbox hg))
                    have n0_ := Aside0.mk (blk_drew BK115.out)
                    have n1_ := Aside0.mk (below_drew1 HB.out)
                    clear BK115
                    clear HB
                    have BK115 := n0_
                    have HB := n1_
                    clear n0_ n1_
                    refine start_ (n := 10) (S := fun w' => w'.cell? ⟨gb115, 0, none⟩ = some (.int .u32 a0_0) ∧ w'.cell? ⟨gb115, 1, none⟩ = some (.int .u8 a0_1) ∧ w'.cell? ⟨gb115, 2, none⟩ = some (.int .u8 a0_2)) (ds := []) #[false, false, false, false, false, false, false, false, false, false] (by kernel_rfl) rfl rfl ⟨(blk_cell BK115.out 0).trans rfl, (blk_cell BK115.out 1).trans rfl, (blk_cell BK115.out 2).trans rfl⟩ (fun hHeld => ?_); refine with_tabW whispererlaw06_AttrsWith.tab1 whispererlaw06_AttrsWith.bits1 (fun HT_ HW_ => ?_)
                    generalize w184.drew = w185 at BK115 HB hHeld ⊢
                    refine pure_ (i := 1) (N := some 11) (v := ?_) (a' := ?_) #[false, true, false, false, false, false, false, false, false, false] rfl rfl (any_of HT_.out (by kernel_rfl)) (fun _ _ _ h => h) (Or.inl ⟨by rfl, ?_⟩) ?_ ?_
                    rotate_left
                    · intro w'
                      go_simp
                      with_reducible rfl
                    rotate_left
                    · simp only [Act.put, List.setIfInBounds_toArray, List.set_cons_zero, List.set_cons_succ, i64_w, i32_w]
                      rfl
                    refine pure_ (i := 4) (N := some 14) (v := ?_) (a' := ?_) #[false, true, false, false, true, false, false, false, false, false] rfl rfl (any_of HT_.out (by kernel_rfl)) (fun _ _ _ h => h) (Or.inl ⟨by rfl, ?_⟩) ?_ ?_
                    rotate_left
                    · intro w'
                      go_simp
                      with_reducible rfl
                    rotate_left
                    · simp only [Act.put, List.setIfInBounds_toArray, List.set_cons_zero, List.set_cons_succ, i64_w, i32_w]
                      rfl
                    refine take_ (i := 0) (N := some 10) (v := ?_) (a' := ?_) #[true, true, false, false, true, false, false, false, false, false] rfl rfl (take_ofW HT_.out HW_.out (by kernel_rfl)) (fun _ _ _ h => h) (Or.inl ⟨by rfl, ?_⟩) hHeld ?_ ?_
                    rotate_left
                    · rintro w' ⟨s0, s1, s2⟩
                      go_simp
                      with_reducible rfl
                    rotate_left
                    · simp only [Act.put, List.setIfInBounds_toArray, List.set_cons_zero, List.set_cons_succ, i64_w, i32_w]
                      rfl
                    refine take_ (i := 3) (N := some 13) (v := ?_) (a' := ?_) #[true, true, false, true, true, false, false, false, false, false] rfl rfl (take_ofW HT_.out HW_.out (by kernel_rfl)) (fun _ _ _ h => h) (Or.inl ⟨by rfl, ?_⟩) hHeld ?_ ?_
                    rotate_left
                    · rintro w' ⟨s0, s1, s2⟩
                      go_simp
                      with_reducible rfl
                    rotate_left
                    · simp only [Act.put, List.setIfInBounds_toArray, List.set_cons_zero, List.set_cons_succ, i64_w, i32_w]
                      rfl
                    refine join_ (σ := Nat × Nat) 2 #[true, true, true, true, true, true, true, true, false, false] (fun s_ => [(12, .agg #[.int .u32 t116, .int .u8 t117, .int .u8 t118]), (15, .agg #[.int .u32 t119, .int .u8 t120, .int .u8 t121]), (7, .pointer (some ⟨s_.1, 0, none⟩)), (8, .pointer (some ⟨s_.2, 0, none⟩))]) (fun s_ w' => (w'.cell? ⟨gb115, 0, none⟩ = some (.int .u32 a0_0) ∧ w'.cell? ⟨gb115, 1, none⟩ = some (.int .u8 a0_1) ∧ w'.cell? ⟨gb115, 2, none⟩ = some (.int .u8 a0_2)) ∧ (w'.heap[gb115]? = some (.cells #[.int .u32 a0_0, .int .u8 a0_1, .int .u8 a0_2] 24 (0, 0))) ∧ (w'.heap[s_.1]? = some (.cells #[.int .u32 0, .int .u8 0, .int .u8 0] 24 (0, 0))) ∧ (w'.heap[s_.2]? = some (.cells #[.int .u32 0, .int .u8 0, .int .u8 0] 24 (0, 0))) ∧ (w.heap.size ≤ s_.1) ∧ (w.heap.size ≤ s_.1) ∧ (gb115 ≠ s_.1) ∧ (s_.1 ≠ gb115) ∧ (s_.2 ≠ s_.1) ∧ (s_.1 ≠ s_.2) ∧ (w.heap.size ≤ s_.2) ∧ (w.heap.size ≤ s_.2) ∧ (gb115 ≠ s_.2) ∧ (s_.2 ≠ gb115) ∧ (Below w.heap.size w w')) ?_ ?_
                    rotate_left
                    · intro hJ2_5_6_7
                      refine join_ (σ := Nat) 3 #[true, true, true, true, true, true, true, false, false, false] (fun s_ => [(12, .agg #[.int .u32 t116, .int .u8 t117, .int .u8 t118]), (15, .agg #[.int .u32 t119, .int .u8 t120, .int .u8 t121]), (7, .pointer (some ⟨s_, 0, none⟩))]) (fun s_ w' => (w'.cell? ⟨gb115, 0, none⟩ = some (.int .u32 a0_0) ∧ w'.cell? ⟨gb115, 1, none⟩ = some (.int .u8 a0_1) ∧ w'.cell? ⟨gb115, 2, none⟩ = some (.int .u8 a0_2)) ∧ (w'.heap[gb115]? = some (.cells #[.int .u32 a0_0, .int .u8 a0_1, .int .u8 a0_2] 24 (0, 0))) ∧ (w'.heap[s_]? = some (.cells #[.int .u32 0, .int .u8 0, .int .u8 0] 24 (0, 0))) ∧ (w.heap.size ≤ s_) ∧ (w.heap.size ≤ s_) ∧ (gb115 ≠ s_) ∧ (s_ ≠ gb115) ∧ (Below w.heap.size w w')) ?_ ?_
                      rotate_left
                      · intro hJ2_5_6
                        refine join_ (σ := Nat) 3 #[true, true, true, true, true, true, false, true, false, false] (fun s_ => [(12, .agg #[.int .u32 t116, .int .u8 t117, .int .u8 t118]), (15, .agg #[.int .u32 t119, .int .u8 t120, .int .u8 t121]), (8, .pointer (some ⟨s_, 0, none⟩))]) (fun s_ w' => (w'.cell? ⟨gb115, 0, none⟩ = some (.int .u32 a0_0) ∧ w'.cell? ⟨gb115, 1, none⟩ = some (.int .u8 a0_1) ∧ w'.cell? ⟨gb115, 2, none⟩ = some (.int .u8 a0_2)) ∧ (w'.heap[gb115]? = some (.cells #[.int .u32 a0_0, .int .u8 a0_1, .int .u8 a0_2] 24 (0, 0))) ∧ (w'.heap[s_]? = some (.cells #[.int .u32 0, .int .u8 0, .int .u8 0] 24 (0, 0))) ∧ (w.heap.size ≤ s_) ∧ (w.heap.size ≤ s_) ∧ (gb115 ≠ s_) ∧ (s_ ≠ gb115) ∧ (Below w.heap.size w w')) ?_ ?_
                        rotate_left
                        · intro hJ2_5_7
                          refine join_ (σ := Nat × Nat) 3 #[true, true, true, true, true, false, true, true, false, false] (fun s_ => [(12, .agg #[.int .u32 t116, .int .u8 t117, .int .u8 t118]), (7, .pointer (some ⟨s_.1, 0, none⟩)), (8, .pointer (some ⟨s_.2, 0, none⟩))]) (fun s_ w' => (w'.cell? ⟨gb115, 0, none⟩ = some (.int .u32 a0_0) ∧ w'.cell? ⟨gb115, 1, none⟩ = some (.int .u8 a0_1) ∧ w'.cell? ⟨gb115, 2, none⟩ = some (.int .u8 a0_2)) ∧ (w'.heap[gb115]? = some (.cells #[.int .u32 a0_0, .int .u8 a0_1, .int .u8 a0_2] 24 (0, 0))) ∧ (w'.heap[s_.1]? = some (.cells #[.int .u32 0, .int .u8 0, .int .u8 0] 24 (0, 0))) ∧ (w'.heap[s_.2]? = some (.cells #[.int .u32 0, .int .u8 0, .int .u8 0] 24 (0, 0))) ∧ (w.heap.size ≤ s_.1) ∧ (w.heap.size ≤ s_.1) ∧ (gb115 ≠ s_.1) ∧ (s_.1 ≠ gb115) ∧ (s_.2 ≠ s_.1) ∧ (s_.1 ≠ s_.2) ∧ (w.heap.size ≤ s_.2) ∧ (w.heap.size ≤ s_.2) ∧ (gb115 ≠ s_.2) ∧ (s_.2 ≠ gb115) ∧ (Below w.heap.size w w')) ?_ ?_
                          rotate_left
                          · intro hJ2_6_7
                            refine join_ (σ := Unit) 4 #[true, true, true, true, true, true, false, false, false, false] (fun s_ => [(12, .agg #[.int .u32 t116, .int .u8 t117, .int .u8 t118]), (15, .agg #[.int .u32 t119, .int .u8 t120, .int .u8 t121])]) (fun s_ w' => (w'.cell? ⟨gb115, 0, none⟩ = some (.int .u32 a0_0) ∧ w'.cell? ⟨gb115, 1, none⟩ = some (.int .u8 a0_1) ∧ w'.cell? ⟨gb115, 2, none⟩ = some (.int .u8 a0_2)) ∧ (w'.heap[gb115]? = some (.cells #[.int .u32 a0_0, .int .u8 a0_1, .int .u8 a0_2] 24 (0, 0))) ∧ (Below w.heap.size w w')) ?_ ?_
                            rotate_left
                            · intro hJ2_5
                              refine join_ (σ := Nat) 4 #[true, true, true, true, true, false, true, false, false, false] (fun s_ => [(12, .agg #[.int .u32 t116, .int .u8 t117, .int .u8 t118]), (7, .pointer (some ⟨s_, 0, none⟩))]) (fun s_ w' => (w'.cell? ⟨gb115, 0, none⟩ = some (.int .u32 a0_0) ∧ w'.cell? ⟨gb115, 1, none⟩ = some (.int .u8 a0_1) ∧ w'.cell? ⟨gb115, 2, none⟩ = some (.int .u8 a0_2)) ∧ (w'.heap[gb115]? = some (.cells #[.int .u32 a0_0, .int .u8 a0_1, .int .u8 a0_2] 24 (0, 0))) ∧ (w'.heap[s_]? = some (.cells #[.int .u32 0, .int .u8 0, .int .u8 0] 24 (0, 0))) ∧ (w.heap.size ≤ s_) ∧ (w.heap.size ≤ s_) ∧ (gb115 ≠ s_) ∧ (s_ ≠ gb115) ∧ (Below w.heap.size w w')) ?_ ?_
                              rotate_left
                              · intro hJ2_6
                                refine join_ (σ := Nat) 4 #[true, true, true, true, true, false, false, true, false, false] (fun s_ => [(12, .agg #[.int .u32 t116, .int .u8 t117, .int .u8 t118]), (8, .pointer (some ⟨s_, 0, none⟩))]) (fun s_ w' => (w'.cell? ⟨gb115, 0, none⟩ = some (.int .u32 a0_0) ∧ w'.cell? ⟨gb115, 1, none⟩ = some (.int .u8 a0_1) ∧ w'.cell? ⟨gb115, 2, none⟩ = some (.int .u8 a0_2)) ∧ (w'.heap[gb115]? = some (.cells #[.int .u32 a0_0, .int .u8 a0_1, .int .u8 a0_2] 24 (0, 0))) ∧ (w'.heap[s_]? = some (.cells #[.int .u32 0, .int .u8 0, .int .u8 0] 24 (0, 0))) ∧ (w.heap.size ≤ s_) ∧ (w.heap.size ≤ s_) ∧ (gb115 ≠ s_) ∧ (s_ ≠ gb115) ∧ (Below w.heap.size w w')) ?_ ?_
                                rotate_left
                                · intro hJ2_7
                                  refine join_ (σ := Nat × Nat) 4 #[true, true, false, true, true, false, true, true, false, false] (fun s_ => [(7, .pointer (some ⟨s_.1, 0, none⟩)), (8, .pointer (some ⟨s_.2, 0, none⟩))]) (fun s_ w' => (w'.cell? ⟨gb115, 0, none⟩ = some (.int .u32 a0_0) ∧ w'.cell? ⟨gb115, 1, none⟩ = some (.int .u8 a0_1) ∧ w'.cell? ⟨gb115, 2, none⟩ = some (.int .u8 a0_2)) ∧ (w'.heap[gb115]? = some (.cells #[.int .u32 a0_0, .int .u8 a0_1, .int .u8 a0_2] 24 (0, 0))) ∧ (w'.heap[s_.1]? = some (.cells #[.int .u32 0, .int .u8 0, .int .u8 0] 24 (0, 0))) ∧ (w'.heap[s_.2]? = some (.cells #[.int .u32 0, .int .u8 0, .int .u8 0] 24 (0, 0))) ∧ (w.heap.size ≤ s_.1) ∧ (w.heap.size ≤ s_.1) ∧ (gb115 ≠ s_.1) ∧ (s_.1 ≠ gb115) ∧ (s_.2 ≠ s_.1) ∧ (s_.1 ≠ s_.2) ∧ (w.heap.size ≤ s_.2) ∧ (w.heap.size ≤ s_.2) ∧ (gb115 ≠ s_.2) ∧ (s_.2 ≠ gb115) ∧ (Below w.heap.size w w')) ?_ ?_
                                  rotate_left
                                  · intro hJ6_7
                                    refine join_ (σ := Unit) 5 #[true, true, true, true, true, false, false, false, false, false] (fun s_ => [(12, .agg #[.int .u32 t116, .int .u8 t117, .int .u8 t118])]) (fun s_ w' => (w'.cell? ⟨gb115, 0, none⟩ = some (.int .u32 a0_0) ∧ w'.cell? ⟨gb115, 1, none⟩ = some (.int .u8 a0_1) ∧ w'.cell? ⟨gb115, 2, none⟩ = some (.int .u8 a0_2)) ∧ (w'.heap[gb115]? = some (.cells #[.int .u32 a0_0, .int .u8 a0_1, .int .u8 a0_2] 24 (0, 0))) ∧ (Below w.heap.size w w')) ?_ ?_
                                    rotate_left
                                    · intro hJ2
                                      refine join_ (σ := Nat) 5 #[true, true, false, true, true, false, true, false, false, false] (fun s_ => [(7, .pointer (some ⟨s_, 0, none⟩))]) (fun s_ w' => (w'.cell? ⟨gb115, 0, none⟩ = some (.int .u32 a0_0) ∧ w'.cell? ⟨gb115, 1, none⟩ = some (.int .u8 a0_1) ∧ w'.cell? ⟨gb115, 2, none⟩ = some (.int .u8 a0_2)) ∧ (w'.heap[gb115]? = some (.cells #[.int .u32 a0_0, .int .u8 a0_1, .int .u8 a0_2] 24 (0, 0))) ∧ (w'.heap[s_]? = some (.cells #[.int .u32 0, .int .u8 0, .int .u8 0] 24 (0, 0))) ∧ (w.heap.size ≤ s_) ∧ (w.heap.size ≤ s_) ∧ (gb115 ≠ s_) ∧ (s_ ≠ gb115) ∧ (Below w.heap.size w w')) ?_ ?_
                                      rotate_left
                                      · intro hJ6
                                        refine join_ (σ := Nat) 5 #[true, true, false, true, true, false, false, true, false, false] (fun s_ => [(8, .pointer (some ⟨s_, 0, none⟩))]) (fun s_ w' => (w'.cell? ⟨gb115, 0, none⟩ = some (.int .u32 a0_0) ∧ w'.cell? ⟨gb115, 1, none⟩ = some (.int .u8 a0_1) ∧ w'.cell? ⟨gb115, 2, none⟩ = some (.int .u8 a0_2)) ∧ (w'.heap[gb115]? = some (.cells #[.int .u32 a0_0, .int .u8 a0_1, .int .u8 a0_2] 24 (0, 0))) ∧ (w'.heap[s_]? = some (.cells #[.int .u32 0, .int .u8 0, .int .u8 0] 24 (0, 0))) ∧ (w.heap.size ≤ s_) ∧ (w.heap.size ≤ s_) ∧ (gb115 ≠ s_) ∧ (s_ ≠ gb115) ∧ (Below w.heap.size w w')) ?_ ?_
                                        rotate_left
                                        · intro hJ7
                                          refine three_ (i := 2) (j := 6) (k := 7) (Ni := some 12) (Nj := some 7) (Nk := some 8) #[true, true, true, true, true, false, false, false, false, false] #[true, true, false, true, true, false, true, false, false, false] #[true, true, false, true, true, false, false, true, false, false] rfl rfl rfl rfl rfl rfl (three_of HT_.out (by kernel_rfl)) (by decide) (by decide) (by decide) (fun K hK => ?_) (fun K hK => ?_) (fun K hK => ?_)
                                          · skip
                                            refine goes_ Tryd.func18 (by kernel_rfl) rfl #[.agg #[.int .u32 a0_0, .int .u8 a0_1, .int .u8 a0_2], .int .u32 a1, .bool true] (by rfl) rfl rfl (by (try simp only [List.map_toArray, List.map_cons, List.map_nil]); first | done | rfl | (simp only [List.length_drop, List.length_take]; rfl)) ?_
                                            with_reducible refine (attrs_With.calls a0_0 a0_1 a0_2 a1 true t116 t117 t118 _ A4.out).mono ?_
                                            rintro e w186 ⟨rfl, hb⟩
                                            refine ⟨_, rfl, ?_⟩
                                            have n0_ := Aside0.mk (blk_below (g := gb115) (o := .cells #[.int .u32 a0_0, .int .u8 a0_1, .int .u8 a0_2] 24 (0, 0)) (by (with_reducible repeat (first | refine blk_drewN ?_ _ | refine blk_drew ?_ | refine blk_alloc ?_ _)); exact BK115.out) hb)
                                            have n1_ := Aside0.mk (below_step (by repeat (first | (with_reducible first | exact HB.out | apply below_alloc | apply pw_below_drewN | apply below_drew1 | refine below_set ?_ GE115.out) | exact HB.out)) hb)
                                            clear BK115
                                            clear HB
                                            have BK115 := n0_
                                            have HB := n1_
                                            clear n0_ n1_
                                            (try clear hb)
                                            (try clear hb2)
                                            (try clear hk)
                                            (try clear hi)
                                            refine hK.out _ _ ⟨(blk_cell BK115.out 0).trans rfl, (blk_cell BK115.out 1).trans rfl, (blk_cell BK115.out 2).trans rfl⟩ (fun hHeld => ?_)
                                            clear hK K
                                            refine norm_ (a' := ?_) ?_ ?_
                                            rotate_left
                                            · show Act.put _ (some 12) _ = _
                                              simp only [Act.put, List.setIfInBounds_toArray, List.set_cons_zero, List.set_cons_succ, i64_w, i32_w]
                                              rfl
                                            exact norm_ (by first | (simp only [putAll, Act.put, List.setIfInBounds_toArray, List.set_cons_zero, List.set_cons_succ]; done) | (simp only [putAll, Act.put, List.setIfInBounds_toArray, List.set_cons_zero, List.set_cons_succ]; rfl)) (hJ2 () _ ⟨hHeld, (by (with_reducible repeat (first | refine blk_drewN ?_ _ | refine blk_drew ?_ | refine blk_alloc ?_ _)); exact BK115.out), (by repeat (first | (with_reducible first | exact HB.out | apply below_alloc | apply pw_below_drewN | apply below_drew1 | refine below_set ?_ GE115.out) | exact HB.out))⟩)
                                          · skip
                                            refine box_step ?hg (N := 7) ?hd (cs := #[.int .u32 0, .int .u8 0, .int .u8 0]) (t := 24) ?hr ?_; (case hd => rfl); (case hg => rfl); (case hr => first | (go_simp; done) | (go_simp; rfl))
                                            intro gb122 hg w186 hbox hb
                                            have n0_ := Aside0.mk (blk_below (g := gb115) (o := .cells #[.int .u32 a0_0, .int .u8 a0_1, .int .u8 a0_2] 24 (0, 0)) (by (with_reducible repeat (first | refine blk_drewN ?_ _ | refine blk_drew ?_ | refine blk_alloc ?_ _)); exact BK115.out) hb)
                                            have n1_ := Aside0.mk (below_step (by repeat (first | (with_reducible first | exact HB.out | apply below_alloc | apply pw_below_drewN | apply below_drew1 | refine below_set ?_ GE115.out) | exact HB.out)) hb)
                                            have n2_ := Aside0.mk (hbox)
                                            have n3_ := Aside0.mk ((by rw [hg]; exact (below_size (by repeat (first | (with_reducible first | exact HB.out | apply below_alloc | apply pw_below_drewN | apply below_drew1 | refine below_set ?_ GE115.out) | exact HB.out))) : w.heap.size ≤ gb122))
                                            have n4_ := Aside0.mk ((by rw [hg]; exact (below_size (by repeat (first | (with_reducible first | exact HB.out | apply below_alloc | apply pw_below_drewN | apply below_drew1 | refine below_set ?_ GE115.out) | exact HB.out))) : w.heap.size ≤ gb122))
                                            have n5_ := Aside0.mk ((by rw [hg]; exact Nat.ne_of_lt (blk_lt (g := gb115) (o := .cells #[.int .u32 a0_0, .int .u8 a0_1, .int .u8 a0_2] 24 (0, 0)) (by (with_reducible repeat (first | refine blk_drewN ?_ _ | refine blk_drew ?_ | refine blk_alloc ?_ _)); exact BK115.out)) : gb115 ≠ gb122))
                                            have n6_ := Aside0.mk ((by rw [hg]; exact Nat.ne_of_gt (blk_lt (g := gb115) (o := .cells #[.int .u32 a0_0, .int .u8 a0_1, .int .u8 a0_2] 24 (0, 0)) (by (with_reducible repeat (first | refine blk_drewN ?_ _ | refine blk_drew ?_ | refine blk_alloc ?_ _)); exact BK115.out)) : gb122 ≠ gb115))
                                            clear BK115
                                            clear HB
                                            have BK115 := n0_
                                            have HB := n1_
                                            have BK122 := n2_
                                            have GW122 := n3_
                                            have GE122 := n4_
                                            have NB115_122 := n5_
                                            have NB122_115 := n6_
                                            clear n0_ n1_ n2_ n3_ n4_ n5_ n6_
                                            clear hb hbox hg
                                            refine hK.out _ _ ⟨(blk_cell BK115.out 0).trans rfl, (blk_cell BK115.out 1).trans rfl, (blk_cell BK115.out 2).trans rfl⟩ (fun hHeld => ?_)
                                            clear hK K
                                            refine norm_ (a' := ?_) ?_ ?_
                                            rotate_left
                                            · show Act.put _ (some 7) _ = _
                                              simp only [Act.put, List.setIfInBounds_toArray, List.set_cons_zero, List.set_cons_succ, i64_w, i32_w]
                                              rfl
                                            exact norm_ (by first | (simp only [putAll, Act.put, List.setIfInBounds_toArray, List.set_cons_zero, List.set_cons_succ]; done) | (simp only [putAll, Act.put, List.setIfInBounds_toArray, List.set_cons_zero, List.set_cons_succ]; rfl)) (hJ6 (gb122) _ ⟨hHeld, (by (with_reducible repeat (first | refine blk_drewN ?_ _ | refine blk_drew ?_ | refine blk_alloc ?_ _)); exact BK115.out), (by (with_reducible repeat (first | refine blk_drewN ?_ _ | refine blk_drew ?_ | refine blk_alloc ?_ _)); exact BK122.out), GW122.out, GE122.out, NB115_122.out, NB122_115.out, (by repeat (first | (with_reducible first | exact HB.out | apply below_alloc | apply pw_below_drewN | apply below_drew1 | refine below_set ?_ GE115.out | refine below_set ?_ GE122.out) | exact HB.out))⟩)
                                          · skip
                                            refine box_step ?hg (N := 8) ?hd (cs := #[.int .u32 0, .int .u8 0, .int .u8 0]) (t := 24) ?hr ?_; (case hd => rfl); (case hg => rfl); (case hr => first | (go_simp; done) | (go_simp; rfl))
                                            intro gb123 hg w186 hbox hb
                                            have n0_ := Aside0.mk (blk_below (g := gb115) (o := .cells #[.int .u32 a0_0, .int .u8 a0_1, .int .u8 a0_2] 24 (0, 0)) (by (with_reducible repeat (first | refine blk_drewN ?_ _ | refine blk_drew ?_ | refine blk_alloc ?_ _)); exact BK115.out) hb)
                                            have n1_ := Aside0.mk (below_step (by repeat (first | (with_reducible first | exact HB.out | apply below_alloc | apply pw_below_drewN | apply below_drew1 | refine below_set ?_ GE115.out) | exact HB.out)) hb)
                                            have n2_ := Aside0.mk (hbox)
                                            have n3_ := Aside0.mk ((by rw [hg]; exact (below_size (by repeat (first | (with_reducible first | exact HB.out | apply below_alloc | apply pw_below_drewN | apply below_drew1 | refine below_set ?_ GE115.out) | exact HB.out))) : w.heap.size ≤ gb123))
                                            have n4_ := Aside0.mk ((by rw [hg]; exact (below_size (by repeat (first | (with_reducible first | exact HB.out | apply below_alloc | apply pw_below_drewN | apply below_drew1 | refine below_set ?_ GE115.out) | exact HB.out))) : w.heap.size ≤ gb123))
                                            have n5_ := Aside0.mk ((by rw [hg]; exact Nat.ne_of_lt (blk_lt (g := gb115) (o := .cells #[.int .u32 a0_0, .int .u8 a0_1, .int .u8 a0_2] 24 (0, 0)) (by (with_reducible repeat (first | refine blk_drewN ?_ _ | refine blk_drew ?_ | refine blk_alloc ?_ _)); exact BK115.out)) : gb115 ≠ gb123))
                                            have n6_ := Aside0.mk ((by rw [hg]; exact Nat.ne_of_gt (blk_lt (g := gb115) (o := .cells #[.int .u32 a0_0, .int .u8 a0_1, .int .u8 a0_2] 24 (0, 0)) (by (with_reducible repeat (first | refine blk_drewN ?_ _ | refine blk_drew ?_ | refine blk_alloc ?_ _)); exact BK115.out)) : gb123 ≠ gb115))
                                            clear BK115
                                            clear HB
                                            have BK115 := n0_
                                            have HB := n1_
                                            have BK123 := n2_
                                            have GW123 := n3_
                                            have GE123 := n4_
                                            have NB115_123 := n5_
                                            have NB123_115 := n6_
                                            clear n0_ n1_ n2_ n3_ n4_ n5_ n6_
                                            clear hb hbox hg
                                            refine hK.out _ _ ⟨(blk_cell BK115.out 0).trans rfl, (blk_cell BK115.out 1).trans rfl, (blk_cell BK115.out 2).trans rfl⟩ (fun hHeld => ?_)
                                            clear hK K
                                            refine norm_ (a' := ?_) ?_ ?_
                                            rotate_left
                                            · show Act.put _ (some 8) _ = _
                                              simp only [Act.put, List.setIfInBounds_toArray, List.set_cons_zero, List.set_cons_succ, i64_w, i32_w]
                                              rfl
                                            exact norm_ (by first | (simp only [putAll, Act.put, List.setIfInBounds_toArray, List.set_cons_zero, List.set_cons_succ]; done) | (simp only [putAll, Act.put, List.setIfInBounds_toArray, List.set_cons_zero, List.set_cons_succ]; rfl)) (hJ7 (gb123) _ ⟨hHeld, (by (with_reducible repeat (first | refine blk_drewN ?_ _ | refine blk_drew ?_ | refine blk_alloc ?_ _)); exact BK115.out), (by (with_reducible repeat (first | refine blk_drewN ?_ _ | refine blk_drew ?_ | refine blk_alloc ?_ _)); exact BK123.out), GW123.out, GE123.out, NB115_123.out, NB123_115.out, (by repeat (first | (with_reducible first | exact HB.out | apply below_alloc | apply pw_below_drewN | apply below_drew1 | refine below_set ?_ GE115.out | refine below_set ?_ GE123.out) | exact HB.out))⟩)
                                        · skip
                                          rintro gb123 w187 ⟨hS_, h0_, h1_, h2_, h3_, h4_, h5_, h6_⟩
                                          have n0_ : Aside0 (w187.heap[gb115]? = some (.cells #[.int .u32 a0_0, .int .u8 a0_1, .int .u8 a0_2] 24 (0, 0))) := ⟨h0_⟩
                                          have n1_ : Aside0 (w187.heap[gb123]? = some (.cells #[.int .u32 0, .int .u8 0, .int .u8 0] 24 (0, 0))) := ⟨h1_⟩
                                          have n2_ : Aside0 (w.heap.size ≤ gb123) := ⟨h2_⟩
                                          have n3_ : Aside0 (w.heap.size ≤ gb123) := ⟨h3_⟩
                                          have n4_ : Aside0 (gb115 ≠ gb123) := ⟨h4_⟩
                                          have n5_ : Aside0 (gb123 ≠ gb115) := ⟨h5_⟩
                                          have n6_ : Aside0 (Below w.heap.size w w187) := ⟨h6_⟩
                                          clear BK115
                                          clear HB
                                          clear h0_ h1_ h2_ h3_ h4_ h5_ h6_
                                          have BK115 := n0_
                                          have BK123 := n1_
                                          have GW123 := n2_
                                          have GE123 := n3_
                                          have NB115_123 := n4_
                                          have NB123_115 := n5_
                                          have HB := n6_
                                          clear n0_ n1_ n2_ n3_ n4_ n5_ n6_
                                          have hHeld : w187.cell? ⟨gb115, 0, none⟩ = some (.int .u32 a0_0) ∧ w187.cell? ⟨gb115, 1, none⟩ = some (.int .u8 a0_1) ∧ w187.cell? ⟨gb115, 2, none⟩ = some (.int .u8 a0_2) := hS_
                                          refine norm_ (a' := ?_) ?_ ?_
                                          rotate_left
                                          · simp only [putAll, Act.put, List.setIfInBounds_toArray, List.set_cons_zero, List.set_cons_succ]
                                            rfl
                                          refine two_ (i := 2) (j := 6) (Ni := some 12) (Nj := some 7) #[true, true, true, true, true, false, false, true, false, false] #[true, true, false, true, true, false, true, true, false, false] rfl rfl rfl rfl (two_of HT_.out (by kernel_rfl)) (by decide) (by decide) (fun K hK => ?_) (fun K hK => ?_)
                                          · skip
                                            refine goes_ Tryd.func18 (by kernel_rfl) rfl #[.agg #[.int .u32 a0_0, .int .u8 a0_1, .int .u8 a0_2], .int .u32 a1, .bool true] (by rfl) rfl rfl (by (try simp only [List.map_toArray, List.map_cons, List.map_nil]); first | done | rfl | (simp only [List.length_drop, List.length_take]; rfl)) ?_
                                            with_reducible refine (attrs_With.calls a0_0 a0_1 a0_2 a1 true t116 t117 t118 _ A4.out).mono ?_
                                            rintro e w188 ⟨rfl, hb⟩
                                            refine ⟨_, rfl, ?_⟩
                                            have n0_ := Aside0.mk (blk_below (g := gb115) (o := .cells #[.int .u32 a0_0, .int .u8 a0_1, .int .u8 a0_2] 24 (0, 0)) (by (with_reducible repeat (first | refine blk_drewN ?_ _ | refine blk_drew ?_ | refine blk_alloc ?_ _)); exact BK115.out) hb)
                                            have n1_ := Aside0.mk (blk_below (g := gb123) (o := .cells #[.int .u32 0, .int .u8 0, .int .u8 0] 24 (0, 0)) (by (with_reducible repeat (first | refine blk_drewN ?_ _ | refine blk_drew ?_ | refine blk_alloc ?_ _)); exact BK123.out) hb)
                                            have n2_ := Aside0.mk (below_step (by repeat (first | (with_reducible first | exact HB.out | apply below_alloc | apply pw_below_drewN | apply below_drew1 | refine below_set ?_ GE115.out | refine below_set ?_ GE123.out) | exact HB.out)) hb)
                                            clear BK115
                                            clear BK123
                                            clear HB
                                            have BK115 := n0_
                                            have BK123 := n1_
                                            have HB := n2_
                                            clear n0_ n1_ n2_
                                            (try clear hb)
                                            (try clear hb2)
                                            (try clear hk)
                                            (try clear hi)
                                            refine hK.out _ _ ⟨(blk_cell BK115.out 0).trans rfl, (blk_cell BK115.out 1).trans rfl, (blk_cell BK115.out 2).trans rfl⟩ (fun hHeld => ?_)
                                            clear hK K
                                            refine norm_ (a' := ?_) ?_ ?_
                                            rotate_left
                                            · show Act.put _ (some 12) _ = _
                                              simp only [Act.put, List.setIfInBounds_toArray, List.set_cons_zero, List.set_cons_succ, i64_w, i32_w]
                                              rfl
                                            exact norm_ (by first | (simp only [putAll, Act.put, List.setIfInBounds_toArray, List.set_cons_zero, List.set_cons_succ]; done) | (simp only [putAll, Act.put, List.setIfInBounds_toArray, List.set_cons_zero, List.set_cons_succ]; rfl)) (hJ2_7 (gb123) _ ⟨hHeld, (by (with_reducible repeat (first | refine blk_drewN ?_ _ | refine blk_drew ?_ | refine blk_alloc ?_ _)); exact BK115.out), (by (with_reducible repeat (first | refine blk_drewN ?_ _ | refine blk_drew ?_ | refine blk_alloc ?_ _)); exact BK123.out), GW123.out, GE123.out, NB115_123.out, NB123_115.out, (by repeat (first | (with_reducible first | exact HB.out | apply below_alloc | apply pw_below_drewN | apply below_drew1 | refine below_set ?_ GE115.out | refine below_set ?_ GE123.out) | exact HB.out))⟩)
                                          · skip
                                            refine box_step ?hg (N := 7) ?hd (cs := #[.int .u32 0, .int .u8 0, .int .u8 0]) (t := 24) ?hr ?_; (case hd => rfl); (case hg => rfl); (case hr => first | (go_simp; done) | (go_simp; rfl))
                                            intro gb122 hg w188 hbox hb
                                            have n0_ := Aside0.mk (blk_below (g := gb115) (o := .cells #[.int .u32 a0_0, .int .u8 a0_1, .int .u8 a0_2] 24 (0, 0)) (by (with_reducible repeat (first | refine blk_drewN ?_ _ | refine blk_drew ?_ | refine blk_alloc ?_ _)); exact BK115.out) hb)
                                            have n1_ := Aside0.mk (blk_below (g := gb123) (o := .cells #[.int .u32 0, .int .u8 0, .int .u8 0] 24 (0, 0)) (by (with_reducible repeat (first | refine blk_drewN ?_ _ | refine blk_drew ?_ | refine blk_alloc ?_ _)); exact BK123.out) hb)
                                            have n2_ := Aside0.mk (below_step (by repeat (first | (with_reducible first | exact HB.out | apply below_alloc | apply pw_below_drewN | apply below_drew1 | refine below_set ?_ GE115.out | refine below_set ?_ GE123.out) | exact HB.out)) hb)
                                            have n3_ := Aside0.mk (hbox)
                                            have n4_ := Aside0.mk ((by rw [hg]; exact (below_size (by repeat (first | (with_reducible first | exact HB.out | apply below_alloc | apply pw_below_drewN | apply below_drew1 | refine below_set ?_ GE115.out | refine below_set ?_ GE123.out) | exact HB.out))) : w.heap.size ≤ gb122))
                                            have n5_ := Aside0.mk ((by rw [hg]; exact (below_size (by repeat (first | (with_reducible first | exact HB.out | apply below_alloc | apply pw_below_drewN | apply below_drew1 | refine below_set ?_ GE115.out | refine below_set ?_ GE123.out) | exact HB.out))) : w.heap.size ≤ gb122))
                                            have n6_ := Aside0.mk ((by rw [hg]; exact Nat.ne_of_lt (blk_lt (g := gb115) (o := .cells #[.int .u32 a0_0, .int .u8 a0_1, .int .u8 a0_2] 24 (0, 0)) (by (with_reducible repeat (first | refine blk_drewN ?_ _ | refine blk_drew ?_ | refine blk_alloc ?_ _)); exact BK115.out)) : gb115 ≠ gb122))
                                            have n7_ := Aside0.mk ((by rw [hg]; exact Nat.ne_of_gt (blk_lt (g := gb115) (o := .cells #[.int .u32 a0_0, .int .u8 a0_1, .int .u8 a0_2] 24 (0, 0)) (by (with_reducible repeat (first | refine blk_drewN ?_ _ | refine blk_drew ?_ | refine blk_alloc ?_ _)); exact BK115.out)) : gb122 ≠ gb115))
                                            have n8_ := Aside0.mk ((by rw [hg]; exact Nat.ne_of_lt (blk_lt (g := gb123) (o := .cells #[.int .u32 0, .int .u8 0, .int .u8 0] 24 (0, 0)) (by (with_reducible repeat (first | refine blk_drewN ?_ _ | refine blk_drew ?_ | refine blk_alloc ?_ _)); exact BK123.out)) : gb123 ≠ gb122))
                                            have n9_ := Aside0.mk ((by rw [hg]; exact Nat.ne_of_gt (blk_lt (g := gb123) (o := .cells #[.int .u32 0, .int .u8 0, .int .u8 0] 24 (0, 0)) (by (with_reducible repeat (first | refine blk_drewN ?_ _ | refine blk_drew ?_ | refine blk_alloc ?_ _)); exact BK123.out)) : gb122 ≠ gb123))
                                            clear BK115
                                            clear BK123
                                            clear HB
                                            have BK115 := n0_
                                            have BK123 := n1_
                                            have HB := n2_
                                            have BK122 := n3_
                                            have GW122 := n4_
                                            have GE122 := n5_
                                            have NB115_122 := n6_
                                            have NB122_115 := n7_
                                            have NB123_122 := n8_
                                            have NB122_123 := n9_
                                            clear n0_ n1_ n2_ n3_ n4_ n5_ n6_ n7_ n8_ n9_
                                            clear hb hbox hg
                                            refine hK.out _ _ ⟨(blk_cell BK115.out 0).trans rfl, (blk_cell BK115.out 1).trans rfl, (blk_cell BK115.out 2).trans rfl⟩ (fun hHeld => ?_)
                                            clear hK K
                                            refine norm_ (a' := ?_) ?_ ?_
                                            rotate_left
                                            · show Act.put _ (some 7) _ = _
                                              simp only [Act.put, List.setIfInBounds_toArray, List.set_cons_zero, List.set_cons_succ, i64_w, i32_w]
                                              rfl
                                            exact norm_ (by first | (simp only [putAll, Act.put, List.setIfInBounds_toArray, List.set_cons_zero, List.set_cons_succ]; done) | (simp only [putAll, Act.put, List.setIfInBounds_toArray, List.set_cons_zero, List.set_cons_succ]; rfl)) (hJ6_7 (gb122, gb123) _ ⟨hHeld, (by (with_reducible repeat (first | refine blk_drewN ?_ _ | refine blk_drew ?_ | refine blk_alloc ?_ _)); exact BK115.out), (by (with_reducible repeat (first | refine blk_drewN ?_ _ | refine blk_drew ?_ | refine blk_alloc ?_ _)); exact BK122.out), (by (with_reducible repeat (first | refine blk_drewN ?_ _ | refine blk_drew ?_ | refine blk_alloc ?_ _)); exact BK123.out), GW122.out, GE122.out, NB115_122.out, NB122_115.out, NB123_122.out, NB122_123.out, GW123.out, GE123.out, NB115_123.out, NB123_115.out, (by repeat (first | (with_reducible first | exact HB.out | apply below_alloc | apply pw_below_drewN | apply below_drew1 | refine below_set ?_ GE115.out | refine below_set ?_ GE123.out | refine below_set ?_ GE122.out) | exact HB.out))⟩)
                                      · skip
                                        rintro gb122 w187 ⟨hS_, h0_, h1_, h2_, h3_, h4_, h5_, h6_⟩
                                        have n0_ : Aside0 (w187.heap[gb115]? = some (.cells #[.int .u32 a0_0, .int .u8 a0_1, .int .u8 a0_2] 24 (0, 0))) := ⟨h0_⟩
                                        have n1_ : Aside0 (w187.heap[gb122]? = some (.cells #[.int .u32 0, .int .u8 0, .int .u8 0] 24 (0, 0))) := ⟨h1_⟩
                                        have n2_ : Aside0 (w.heap.size ≤ gb122) := ⟨h2_⟩
                                        have n3_ : Aside0 (w.heap.size ≤ gb122) := ⟨h3_⟩
                                        have n4_ : Aside0 (gb115 ≠ gb122) := ⟨h4_⟩
                                        have n5_ : Aside0 (gb122 ≠ gb115) := ⟨h5_⟩
                                        have n6_ : Aside0 (Below w.heap.size w w187) := ⟨h6_⟩
                                        clear BK115
                                        clear HB
                                        clear h0_ h1_ h2_ h3_ h4_ h5_ h6_
                                        have BK115 := n0_
                                        have BK122 := n1_
                                        have GW122 := n2_
                                        have GE122 := n3_
                                        have NB115_122 := n4_
                                        have NB122_115 := n5_
                                        have HB := n6_
                                        clear n0_ n1_ n2_ n3_ n4_ n5_ n6_
                                        have hHeld : w187.cell? ⟨gb115, 0, none⟩ = some (.int .u32 a0_0) ∧ w187.cell? ⟨gb115, 1, none⟩ = some (.int .u8 a0_1) ∧ w187.cell? ⟨gb115, 2, none⟩ = some (.int .u8 a0_2) := hS_
                                        refine norm_ (a' := ?_) ?_ ?_
                                        rotate_left
                                        · simp only [putAll, Act.put, List.setIfInBounds_toArray, List.set_cons_zero, List.set_cons_succ]
                                          rfl
                                        refine two_ (i := 2) (j := 7) (Ni := some 12) (Nj := some 8) #[true, true, true, true, true, false, true, false, false, false] #[true, true, false, true, true, false, true, true, false, false] rfl rfl rfl rfl (two_of HT_.out (by kernel_rfl)) (by decide) (by decide) (fun K hK => ?_) (fun K hK => ?_)
                                        · skip
                                          refine goes_ Tryd.func18 (by kernel_rfl) rfl #[.agg #[.int .u32 a0_0, .int .u8 a0_1, .int .u8 a0_2], .int .u32 a1, .bool true] (by rfl) rfl rfl (by (try simp only [List.map_toArray, List.map_cons, List.map_nil]); first | done | rfl | (simp only [List.length_drop, List.length_take]; rfl)) ?_
                                          with_reducible refine (attrs_With.calls a0_0 a0_1 a0_2 a1 true t116 t117 t118 _ A4.out).mono ?_
                                          rintro e w188 ⟨rfl, hb⟩
                                          refine ⟨_, rfl, ?_⟩
                                          have n0_ := Aside0.mk (blk_below (g := gb115) (o := .cells #[.int .u32 a0_0, .int .u8 a0_1, .int .u8 a0_2] 24 (0, 0)) (by (with_reducible repeat (first | refine blk_drewN ?_ _ | refine blk_drew ?_ | refine blk_alloc ?_ _)); exact BK115.out) hb)
                                          have n1_ := Aside0.mk (blk_below (g := gb122) (o := .cells #[.int .u32 0, .int .u8 0, .int .u8 0] 24 (0, 0)) (by (with_reducible repeat (first | refine blk_drewN ?_ _ | refine blk_drew ?_ | refine blk_alloc ?_ _)); exact BK122.out) hb)
                                          have n2_ := Aside0.mk (below_step (by repeat (first | (with_reducible first | exact HB.out | apply below_alloc | apply pw_below_drewN | apply below_drew1 | refine below_set ?_ GE115.out | refine below_set ?_ GE122.out) | exact HB.out)) hb)
                                          clear BK115
                                          clear BK122
                                          clear HB
                                          have BK115 := n0_
                                          have BK122 := n1_
                                          have HB := n2_
                                          clear n0_ n1_ n2_
                                          (try clear hb)
                                          (try clear hb2)
                                          (try clear hk)
                                          (try clear hi)
                                          refine hK.out _ _ ⟨(blk_cell BK115.out 0).trans rfl, (blk_cell BK115.out 1).trans rfl, (blk_cell BK115.out 2).trans rfl⟩ (fun hHeld => ?_)
                                          clear hK K
                                          refine norm_ (a' := ?_) ?_ ?_
                                          rotate_left
                                          · show Act.put _ (some 12) _ = _
                                            simp only [Act.put, List.setIfInBounds_toArray, List.set_cons_zero, List.set_cons_succ, i64_w, i32_w]
                                            rfl
                                          exact norm_ (by first | (simp only [putAll, Act.put, List.setIfInBounds_toArray, List.set_cons_zero, List.set_cons_succ]; done) | (simp only [putAll, Act.put, List.setIfInBounds_toArray, List.set_cons_zero, List.set_cons_succ]; rfl)) (hJ2_6 (gb122) _ ⟨hHeld, (by (with_reducible repeat (first | refine blk_drewN ?_ _ | refine blk_drew ?_ | refine blk_alloc ?_ _)); exact BK115.out), (by (with_reducible repeat (first | refine blk_drewN ?_ _ | refine blk_drew ?_ | refine blk_alloc ?_ _)); exact BK122.out), GW122.out, GE122.out, NB115_122.out, NB122_115.out, (by repeat (first | (with_reducible first | exact HB.out | apply below_alloc | apply pw_below_drewN | apply below_drew1 | refine below_set ?_ GE115.out | refine below_set ?_ GE122.out) | exact HB.out))⟩)
                                        · skip
                                          refine box_step ?hg (N := 8) ?hd (cs := #[.int .u32 0, .int .u8 0, .int .u8 0]) (t := 24) ?hr ?_; (case hd => rfl); (case hg => rfl); (case hr => first | (go_simp; done) | (go_simp; rfl))
                                          intro gb123 hg w188 hbox hb
                                          have n0_ := Aside0.mk (blk_below (g := gb115) (o := .cells #[.int .u32 a0_0, .int .u8 a0_1, .int .u8 a0_2] 24 (0, 0)) (by (with_reducible repeat (first | refine blk_drewN ?_ _ | refine blk_drew ?_ | refine blk_alloc ?_ _)); exact BK115.out) hb)
                                          have n1_ := Aside0.mk (blk_below (g := gb122) (o := .cells #[.int .u32 0, .int .u8 0, .int .u8 0] 24 (0, 0)) (by (with_reducible repeat (first | refine blk_drewN ?_ _ | refine blk_drew ?_ | refine blk_alloc ?_ _)); exact BK122.out) hb)
                                          have n2_ := Aside0.mk (below_step (by repeat (first | (with_reducible first | exact HB.out | apply below_alloc | apply pw_below_drewN | apply below_drew1 | refine below_set ?_ GE115.out | refine below_set ?_ GE122.out) | exact HB.out)) hb)
                                          have n3_ := Aside0.mk (hbox)
                                          have n4_ := Aside0.mk ((by rw [hg]; exact (below_size (by repeat (first | (with_reducible first | exact HB.out | apply below_alloc | apply pw_below_drewN | apply below_drew1 | refine below_set ?_ GE115.out | refine below_set ?_ GE122.out) | exact HB.out))) : w.heap.size ≤ gb123))
                                          have n5_ := Aside0.mk ((by rw [hg]; exact (below_size (by repeat (first | (with_reducible first | exact HB.out | apply below_alloc | apply pw_below_drewN | apply below_drew1 | refine below_set ?_ GE115.out | refine below_set ?_ GE122.out) | exact HB.out))) : w.heap.size ≤ gb123))
                                          have n6_ := Aside0.mk ((by rw [hg]; exact Nat.ne_of_lt (blk_lt (g := gb115) (o := .cells #[.int .u32 a0_0, .int .u8 a0_1, .int .u8 a0_2] 24 (0, 0)) (by (with_reducible repeat (first | refine blk_drewN ?_ _ | refine blk_drew ?_ | refine blk_alloc ?_ _)); exact BK115.out)) : gb115 ≠ gb123))
                                          have n7_ := Aside0.mk ((by rw [hg]; exact Nat.ne_of_gt (blk_lt (g := gb115) (o := .cells #[.int .u32 a0_0, .int .u8 a0_1, .int .u8 a0_2] 24 (0, 0)) (by (with_reducible repeat (first | refine blk_drewN ?_ _ | refine blk_drew ?_ | refine blk_alloc ?_ _)); exact BK115.out)) : gb123 ≠ gb115))
                                          have n8_ := Aside0.mk ((by rw [hg]; exact Nat.ne_of_lt (blk_lt (g := gb122) (o := .cells #[.int .u32 0, .int .u8 0, .int .u8 0] 24 (0, 0)) (by (with_reducible repeat (first | refine blk_drewN ?_ _ | refine blk_drew ?_ | refine blk_alloc ?_ _)); exact BK122.out)) : gb122 ≠ gb123))
                                          have n9_ := Aside0.mk ((by rw [hg]; exact Nat.ne_of_gt (blk_lt (g := gb122) (o := .cells #[.int .u32 0, .int .u8 0, .int .u8 0] 24 (0, 0)) (by (with_reducible repeat (first | refine blk_drewN ?_ _ | refine blk_drew ?_ | refine blk_alloc ?_ _)); exact BK122.out)) : gb123 ≠ gb122))
                                          clear BK115
                                          clear BK122
                                          clear HB
                                          have BK115 := n0_
                                          have BK122 := n1_
                                          have HB := n2_
                                          have BK123 := n3_
                                          have GW123 := n4_
                                          have GE123 := n5_
                                          have NB115_123 := n6_
                                          have NB123_115 := n7_
                                          have NB122_123 := n8_
                                          have NB123_122 := n9_
                                          clear n0_ n1_ n2_ n3_ n4_ n5_ n6_ n7_ n8_ n9_
                                          clear hb hbox hg
                                          refine hK.out _ _ ⟨(blk_cell BK115.out 0).trans rfl, (blk_cell BK115.out 1).trans rfl, (blk_cell BK115.out 2).trans rfl⟩ (fun hHeld => ?_)
                                          clear hK K
                                          refine norm_ (a' := ?_) ?_ ?_
                                          rotate_left
                                          · show Act.put _ (some 8) _ = _
                                            simp only [Act.put, List.setIfInBounds_toArray, List.set_cons_zero, List.set_cons_succ, i64_w, i32_w]
                                            rfl
                                          exact norm_ (by first | (simp only [putAll, Act.put, List.setIfInBounds_toArray, List.set_cons_zero, List.set_cons_succ]; done) | (simp only [putAll, Act.put, List.setIfInBounds_toArray, List.set_cons_zero, List.set_cons_succ]; rfl)) (hJ6_7 (gb122, gb123) _ ⟨hHeld, (by (with_reducible repeat (first | refine blk_drewN ?_ _ | refine blk_drew ?_ | refine blk_alloc ?_ _)); exact BK115.out), (by (with_reducible repeat (first | refine blk_drewN ?_ _ | refine blk_drew ?_ | refine blk_alloc ?_ _)); exact BK122.out), (by (with_reducible repeat (first | refine blk_drewN ?_ _ | refine blk_drew ?_ | refine blk_alloc ?_ _)); exact BK123.out), GW122.out, GE122.out, NB115_122.out, NB122_115.out, NB123_122.out, NB122_123.out, GW123.out, GE123.out, NB115_123.out, NB123_115.out, (by repeat (first | (with_reducible first | exact HB.out | apply below_alloc | apply pw_below_drewN | apply below_drew1 | refine below_set ?_ GE115.out | refine below_set ?_ GE122.out | refine below_set ?_ GE123.out) | exact HB.out))⟩)
                                    · skip
                                      rintro _ w187 ⟨hS_, h0_, h1_⟩
                                      have n0_ : Aside0 (w187.heap[gb115]? = some (.cells #[.int .u32 a0_0, .int .u8 a0_1, .int .u8 a0_2] 24 (0, 0))) := ⟨h0_⟩
                                      have n1_ : Aside0 (Below w.heap.size w w187) := ⟨h1_⟩
                                      clear BK115
                                      clear HB
                                      clear h0_ h1_
                                      have BK115 := n0_
                                      have HB := n1_
                                      clear n0_ n1_
                                      have hHeld : w187.cell? ⟨gb115, 0, none⟩ = some (.int .u32 a0_0) ∧ w187.cell? ⟨gb115, 1, none⟩ = some (.int .u8 a0_1) ∧ w187.cell? ⟨gb115, 2, none⟩ = some (.int .u8 a0_2) := hS_
                                      refine norm_ (a' := ?_) ?_ ?_
                                      rotate_left
                                      · simp only [putAll, Act.put, List.setIfInBounds_toArray, List.set_cons_zero, List.set_cons_succ]
                                        rfl
                                      refine three_ (i := 5) (j := 6) (k := 7) (Ni := some 15) (Nj := some 7) (Nk := some 8) #[true, true, true, true, true, true, false, false, false, false] #[true, true, true, true, true, false, true, false, false, false] #[true, true, true, true, true, false, false, true, false, false] rfl rfl rfl rfl rfl rfl (three_of HT_.out (by kernel_rfl)) (by decide) (by decide) (by decide) (fun K hK => ?_) (fun K hK => ?_) (fun K hK => ?_)
                                      · skip
                                        refine goes_ Tryd.func18 (by kernel_rfl) rfl #[.agg #[.int .u32 a0_0, .int .u8 a0_1, .int .u8 a0_2], .int .u32 a1, .bool false] (by rfl) rfl rfl (by (try simp only [List.map_toArray, List.map_cons, List.map_nil]); first | done | rfl | (simp only [List.length_drop, List.length_take]; rfl)) ?_
                                        with_reducible refine (attrs_With.calls a0_0 a0_1 a0_2 a1 false t119 t120 t121 _ A5.out).mono ?_
                                        rintro e w188 ⟨rfl, hb⟩
                                        refine ⟨_, rfl, ?_⟩
                                        have n0_ := Aside0.mk (blk_below (g := gb115) (o := .cells #[.int .u32 a0_0, .int .u8 a0_1, .int .u8 a0_2] 24 (0, 0)) (by (with_reducible repeat (first | refine blk_drewN ?_ _ | refine blk_drew ?_ | refine blk_alloc ?_ _)); exact BK115.out) hb)
                                        have n1_ := Aside0.mk (below_step (by repeat (first | (with_reducible first | exact HB.out | apply below_alloc | apply pw_below_drewN | apply below_drew1 | refine below_set ?_ GE115.out) | exact HB.out)) hb)
                                        clear BK115
                                        clear HB
                                        have BK115 := n0_
                                        have HB := n1_
                                        clear n0_ n1_
                                        (try clear hb)
                                        (try clear hb2)
                                        (try clear hk)
                                        (try clear hi)
                                        refine hK.out _ _ ⟨(blk_cell BK115.out 0).trans rfl, (blk_cell BK115.out 1).trans rfl, (blk_cell BK115.out 2).trans rfl⟩ (fun hHeld => ?_)
                                        clear hK K
                                        refine norm_ (a' := ?_) ?_ ?_
                                        rotate_left
                                        · show Act.put _ (some 15) _ = _
                                          simp only [Act.put, List.setIfInBounds_toArray, List.set_cons_zero, List.set_cons_succ, i64_w, i32_w]
                                          rfl
                                        exact norm_ (by first | (simp only [putAll, Act.put, List.setIfInBounds_toArray, List.set_cons_zero, List.set_cons_succ]; done) | (simp only [putAll, Act.put, List.setIfInBounds_toArray, List.set_cons_zero, List.set_cons_succ]; rfl)) (hJ2_5 () _ ⟨hHeld, (by (with_reducible repeat (first | refine blk_drewN ?_ _ | refine blk_drew ?_ | refine blk_alloc ?_ _)); exact BK115.out), (by repeat (first | (with_reducible first | exact HB.out | apply below_alloc | apply pw_below_drewN | apply below_drew1 | refine below_set ?_ GE115.out) | exact HB.out))⟩)
                                      · skip
                                        refine box_step ?hg (N := 7) ?hd (cs := #[.int .u32 0, .int .u8 0, .int .u8 0]) (t := 24) ?hr ?_; (case hd => rfl); (case hg => rfl); (case hr => first | (go_simp; done) | (go_simp; rfl))
                                        intro gb122 hg w188 hbox hb
                                        have n0_ := Aside0.mk (blk_below (g := gb115) (o := .cells #[.int .u32 a0_0, .int .u8 a0_1, .int .u8 a0_2] 24 (0, 0)) (by (with_reducible repeat (first | refine blk_drewN ?_ _ | refine blk_drew ?_ | refine blk_alloc ?_ _)); exact BK115.out) hb)
                                        have n1_ := Aside0.mk (below_step (by repeat (first | (with_reducible first | exact HB.out | apply below_alloc | apply pw_below_drewN | apply below_drew1 | refine below_set ?_ GE115.out) | exact HB.out)) hb)
                                        have n2_ := Aside0.mk (hbox)
                                        have n3_ := Aside0.mk ((by rw [hg]; exact (below_size (by repeat (first | (with_reducible first | exact HB.out | apply below_alloc | apply pw_below_drewN | apply below_drew1 | refine below_set ?_ GE115.out) | exact HB.out))) : w.heap.size ≤ gb122))
                                        have n4_ := Aside0.mk ((by rw [hg]; exact (below_size (by repeat (first | (with_reducible first | exact HB.out | apply below_alloc | apply pw_below_drewN | apply below_drew1 | refine below_set ?_ GE115.out) | exact HB.out))) : w.heap.size ≤ gb122))
                                        have n5_ := Aside0.mk ((by rw [hg]; exact Nat.ne_of_lt (blk_lt (g := gb115) (o := .cells #[.int .u32 a0_0, .int .u8 a0_1, .int .u8 a0_2] 24 (0, 0)) (by (with_reducible repeat (first | refine blk_drewN ?_ _ | refine blk_drew ?_ | refine blk_alloc ?_ _)); exact BK115.out)) : gb115 ≠ gb122))
                                        have n6_ := Aside0.mk ((by rw [hg]; exact Nat.ne_of_gt (blk_lt (g := gb115) (o := .cells #[.int .u32 a0_0, .int .u8 a0_1, .int .u8 a0_2] 24 (0, 0)) (by (with_reducible repeat (first | refine blk_drewN ?_ _ | refine blk_drew ?_ | refine blk_alloc ?_ _)); exact BK115.out)) : gb122 ≠ gb115))
                                        clear BK115
                                        clear HB
                                        have BK115 := n0_
                                        have HB := n1_
                                        have BK122 := n2_
                                        have GW122 := n3_
                                        have GE122 := n4_
                                        have NB115_122 := n5_
                                        have NB122_115 := n6_
                                        clear n0_ n1_ n2_ n3_ n4_ n5_ n6_
                                        clear hb hbox hg
                                        refine hK.out _ _ ⟨(blk_cell BK115.out 0).trans rfl, (blk_cell BK115.out 1).trans rfl, (blk_cell BK115.out 2).trans rfl⟩ (fun hHeld => ?_)
                                        clear hK K
                                        refine norm_ (a' := ?_) ?_ ?_
                                        rotate_left
                                        · show Act.put _ (some 7) _ = _
                                          simp only [Act.put, List.setIfInBounds_toArray, List.set_cons_zero, List.set_cons_succ, i64_w, i32_w]
                                          rfl
                                        exact norm_ (by first | (simp only [putAll, Act.put, List.setIfInBounds_toArray, List.set_cons_zero, List.set_cons_succ]; done) | (simp only [putAll, Act.put, List.setIfInBounds_toArray, List.set_cons_zero, List.set_cons_succ]; rfl)) (hJ2_6 (gb122) _ ⟨hHeld, (by (with_reducible repeat (first | refine blk_drewN ?_ _ | refine blk_drew ?_ | refine blk_alloc ?_ _)); exact BK115.out), (by (with_reducible repeat (first | refine blk_drewN ?_ _ | refine blk_drew ?_ | refine blk_alloc ?_ _)); exact BK122.out), GW122.out, GE122.out, NB115_122.out, NB122_115.out, (by repeat (first | (with_reducible first | exact HB.out | apply below_alloc | apply pw_below_drewN | apply below_drew1 | refine below_set ?_ GE115.out | refine below_set ?_ GE122.out) | exact HB.out))⟩)
                                      · skip
                                        refine box_step ?hg (N := 8) ?hd (cs := #[.int .u32 0, .int .u8 0, .int .u8 0]) (t := 24) ?hr ?_; (case hd => rfl); (case hg => rfl); (case hr => first | (go_simp; done) | (go_simp; rfl))
                                        intro gb123 hg w188 hbox hb
                                        have n0_ := Aside0.mk (blk_below (g := gb115) (o := .cells #[.int .u32 a0_0, .int .u8 a0_1, .int .u8 a0_2] 24 (0, 0)) (by (with_reducible repeat (first | refine blk_drewN ?_ _ | refine blk_drew ?_ | refine blk_alloc ?_ _)); exact BK115.out) hb)
                                        have n1_ := Aside0.mk (below_step (by repeat (first | (with_reducible first | exact HB.out | apply below_alloc | apply pw_below_drewN | apply below_drew1 | refine below_set ?_ GE115.out) | exact HB.out)) hb)
                                        have n2_ := Aside0.mk (hbox)
                                        have n3_ := Aside0.mk ((by rw [hg]; exact (below_size (by repeat (first | (with_reducible first | exact HB.out | apply below_alloc | apply pw_below_drewN | apply below_drew1 | refine below_set ?_ GE115.out) | exact HB.out))) : w.heap.size ≤ gb123))
                                        have n4_ := Aside0.mk ((by rw [hg]; exact (below_size (by repeat (first | (with_reducible first | exact HB.out | apply below_alloc | apply pw_below_drewN | apply below_drew1 | refine below_set ?_ GE115.out) | exact HB.out))) : w.heap.size ≤ gb123))
                                        have n5_ := Aside0.mk ((by rw [hg]; exact Nat.ne_of_lt (blk_lt (g := gb115) (o := .cells #[.int .u32 a0_0, .int .u8 a0_1, .int .u8 a0_2] 24 (0, 0)) (by (with_reducible repeat (first | refine blk_drewN ?_ _ | refine blk_drew ?_ | refine blk_alloc ?_ _)); exact BK115.out)) : gb115 ≠ gb123))
                                        have n6_ := Aside0.mk ((by rw [hg]; exact Nat.ne_of_gt (blk_lt (g := gb115) (o := .cells #[.int .u32 a0_0, .int .u8 a0_1, .int .u8 a0_2] 24 (0, 0)) (by (with_reducible repeat (first | refine blk_drewN ?_ _ | refine blk_drew ?_ | refine blk_alloc ?_ _)); exact BK115.out)) : gb123 ≠ gb115))
                                        clear BK115
                                        clear HB
                                        have BK115 := n0_
                                        have HB := n1_
                                        have BK123 := n2_
                                        have GW123 := n3_
                                        have GE123 := n4_
                                        have NB115_123 := n5_
                                        have NB123_115 := n6_
                                        clear n0_ n1_ n2_ n3_ n4_ n5_ n6_
                                        clear hb hbox hg
                                        refine hK.out _ _ ⟨(blk_cell BK115.out 0).trans rfl, (blk_cell BK115.out 1).trans rfl, (blk_cell BK115.out 2).trans rfl⟩ (fun hHeld => ?_)
                                        clear hK K
                                        refine norm_ (a' := ?_) ?_ ?_
                                        rotate_left
                                        · show Act.put _ (some 8) _ = _
                                          simp only [Act.put, List.setIfInBounds_toArray, List.set_cons_zero, List.set_cons_succ, i64_w, i32_w]
                                          rfl
                                        exact norm_ (by first | (simp only [putAll, Act.put, List.setIfInBounds_toArray, List.set_cons_zero, List.set_cons_succ]; done) | (simp only [putAll, Act.put, List.setIfInBounds_toArray, List.set_cons_zero, List.set_cons_succ]; rfl)) (hJ2_7 (gb123) _ ⟨hHeld, (by (with_reducible repeat (first | refine blk_drewN ?_ _ | refine blk_drew ?_ | refine blk_alloc ?_ _)); exact BK115.out), (by (with_reducible repeat (first | refine blk_drewN ?_ _ | refine blk_drew ?_ | refine blk_alloc ?_ _)); exact BK123.out), GW123.out, GE123.out, NB115_123.out, NB123_115.out, (by repeat (first | (with_reducible first | exact HB.out | apply below_alloc | apply pw_below_drewN | apply below_drew1 | refine below_set ?_ GE115.out | refine below_set ?_ GE123.out) | exact HB.out))⟩)
                                  · skip
                                    rintro ⟨gb122, gb123⟩ w188 ⟨hS_, h0_, h1_, h2_, h3_, h4_, h5_, h6_, h7_, h8_, h9_, h10_, h11_, h12_, h13_⟩
                                    have n0_ : Aside0 (w188.heap[gb115]? = some (.cells #[.int .u32 a0_0, .int .u8 a0_1, .int .u8 a0_2] 24 (0, 0))) := ⟨h0_⟩
                                    have n1_ : Aside0 (w188.heap[gb122]? = some (.cells #[.int .u32 0, .int .u8 0, .int .u8 0] 24 (0, 0))) := ⟨h1_⟩
                                    have n2_ : Aside0 (w188.heap[gb123]? = some (.cells #[.int .u32 0, .int .u8 0, .int .u8 0] 24 (0, 0))) := ⟨h2_⟩
                                    have n3_ : Aside0 (w.heap.size ≤ gb122) := ⟨h3_⟩
                                    have n4_ : Aside0 (w.heap.size ≤ gb122) := ⟨h4_⟩
                                    have n5_ : Aside0 (gb115 ≠ gb122) := ⟨h5_⟩
                                    have n6_ : Aside0 (gb122 ≠ gb115) := ⟨h6_⟩
                                    have n7_ : Aside0 (gb123 ≠ gb122) := ⟨h7_⟩
                                    have n8_ : Aside0 (gb122 ≠ gb123) := ⟨h8_⟩
                                    have n9_ : Aside0 (w.heap.size ≤ gb123) := ⟨h9_⟩
                                    have n10_ : Aside0 (w.heap.size ≤ gb123) := ⟨h10_⟩
                                    have n11_ : Aside0 (gb115 ≠ gb123) := ⟨h11_⟩
                                    have n12_ : Aside0 (gb123 ≠ gb115) := ⟨h12_⟩
                                    have n13_ : Aside0 (Below w.heap.size w w188) := ⟨h13_⟩
                                    clear BK115
                                    clear HB
                                    clear h0_ h1_ h2_ h3_ h4_ h5_ h6_ h7_ h8_ h9_ h10_ h11_ h12_ h13_
                                    have BK115 := n0_
                                    have BK122 := n1_
                                    have BK123 := n2_
                                    have GW122 := n3_
                                    have GE122 := n4_
                                    have NB115_122 := n5_
                                    have NB122_115 := n6_
                                    have NB123_122 := n7_
                                    have NB122_123 := n8_
                                    have GW123 := n9_
                                    have GE123 := n10_
                                    have NB115_123 := n11_
                                    have NB123_115 := n12_
                                    have HB := n13_
                                    clear n0_ n1_ n2_ n3_ n4_ n5_ n6_ n7_ n8_ n9_ n10_ n11_ n12_ n13_
                                    have hHeld : w188.cell? ⟨gb115, 0, none⟩ = some (.int .u32 a0_0) ∧ w188.cell? ⟨gb115, 1, none⟩ = some (.int .u8 a0_1) ∧ w188.cell? ⟨gb115, 2, none⟩ = some (.int .u8 a0_2) := hS_
                                    refine norm_ (a' := ?_) ?_ ?_
                                    rotate_left
                                    · simp only [putAll, Act.put, List.setIfInBounds_toArray, List.set_cons_zero, List.set_cons_succ]
                                      rfl
                                    refine one_ (i := 2) (N := some 12) #[true, true, true, true, true, false, true, true, false, false] rfl rfl (one_of HT_.out (by kernel_rfl)) (by decide) (fun K hK => ?_)
                                    refine goes_ Tryd.func18 (by kernel_rfl) rfl #[.agg #[.int .u32 a0_0, .int .u8 a0_1, .int .u8 a0_2], .int .u32 a1, .bool true] (by rfl) rfl rfl (by (try simp only [List.map_toArray, List.map_cons, List.map_nil]); first | done | rfl | (simp only [List.length_drop, List.length_take]; rfl)) ?_
                                    with_reducible refine (attrs_With.calls a0_0 a0_1 a0_2 a1 true t116 t117 t118 _ A4.out).mono ?_
                                    rintro e w189 ⟨rfl, hb⟩
                                    refine ⟨_, rfl, ?_⟩
                                    have n0_ := Aside0.mk (blk_below (g := gb115) (o := .cells #[.int .u32 a0_0, .int .u8 a0_1, .int .u8 a0_2] 24 (0, 0)) (by (with_reducible repeat (first | refine blk_drewN ?_ _ | refine blk_drew ?_ | refine blk_alloc ?_ _)); exact BK115.out) hb)
                                    have n1_ := Aside0.mk (blk_below (g := gb122) (o := .cells #[.int .u32 0, .int .u8 0, .int .u8 0] 24 (0, 0)) (by (with_reducible repeat (first | refine blk_drewN ?_ _ | refine blk_drew ?_ | refine blk_alloc ?_ _)); exact BK122.out) hb)
                                    have n2_ := Aside0.mk (blk_below (g := gb123) (o := .cells #[.int .u32 0, .int .u8 0, .int .u8 0] 24 (0, 0)) (by (with_reducible repeat (first | refine blk_drewN ?_ _ | refine blk_drew ?_ | refine blk_alloc ?_ _)); exact BK123.out) hb)
                                    have n3_ := Aside0.mk (below_step (by repeat (first | (with_reducible first | exact HB.out | apply below_alloc | apply pw_below_drewN | apply below_drew1 | refine below_set ?_ GE115.out | refine below_set ?_ GE122.out | refine below_set ?_ GE123.out) | exact HB.out)) hb)
                                    clear BK115
                                    clear BK122
                                    clear BK123
                                    clear HB
                                    have BK115 := n0_
                                    have BK122 := n1_
                                    have BK123 := n2_
                                    have HB := n3_
                                    clear n0_ n1_ n2_ n3_
                                    (try clear hb)
                                    (try clear hb2)
                                    (try clear hk)
                                    (try clear hi)
                                    refine hK.out _ _ ⟨(blk_cell BK115.out 0).trans rfl, (blk_cell BK115.out 1).trans rfl, (blk_cell BK115.out 2).trans rfl⟩ (fun hHeld => ?_)
                                    clear hK K
                                    refine norm_ (a' := ?_) ?_ ?_
                                    rotate_left
                                    · show Act.put _ (some 12) _ = _
                                      simp only [Act.put, List.setIfInBounds_toArray, List.set_cons_zero, List.set_cons_succ, i64_w, i32_w]
                                      rfl
                                    exact norm_ (by first | (simp only [putAll, Act.put, List.setIfInBounds_toArray, List.set_cons_zero, List.set_cons_succ]; done) | (simp only [putAll, Act.put, List.setIfInBounds_toArray, List.set_cons_zero, List.set_cons_succ]; rfl)) (hJ2_6_7 (gb122, gb123) _ ⟨hHeld, (by (with_reducible repeat (first | refine blk_drewN ?_ _ | refine blk_drew ?_ | refine blk_alloc ?_ _)); exact BK115.out), (by (with_reducible repeat (first | refine blk_drewN ?_ _ | refine blk_drew ?_ | refine blk_alloc ?_ _)); exact BK122.out), (by (with_reducible repeat (first | refine blk_drewN ?_ _ | refine blk_drew ?_ | refine blk_alloc ?_ _)); exact BK123.out), GW122.out, GE122.out, NB115_122.out, NB122_115.out, NB123_122.out, NB122_123.out, GW123.out, GE123.out, NB115_123.out, NB123_115.out, (by repeat (first | (with_reducible first | exact HB.out | apply below_alloc | apply pw_below_drewN | apply below_drew1 | refine below_set ?_ GE115.out | refine below_set ?_ GE122.out | refine below_set ?_ GE123.out) | exact HB.out))⟩)
                                · skip
                                  rintro gb123 w188 ⟨hS_, h0_, h1_, h2_, h3_, h4_, h5_, h6_⟩
                                  have n0_ : Aside0 (w188.heap[gb115]? = some (.cells #[.int .u32 a0_0, .int .u8 a0_1, .int .u8 a0_2] 24 (0, 0))) := ⟨h0_⟩
                                  have n1_ : Aside0 (w188.heap[gb123]? = some (.cells #[.int .u32 0, .int .u8 0, .int .u8 0] 24 (0, 0))) := ⟨h1_⟩
                                  have n2_ : Aside0 (w.heap.size ≤ gb123) := ⟨h2_⟩
                                  have n3_ : Aside0 (w.heap.size ≤ gb123) := ⟨h3_⟩
                                  have n4_ : Aside0 (gb115 ≠ gb123) := ⟨h4_⟩
                                  have n5_ : Aside0 (gb123 ≠ gb115) := ⟨h5_⟩
                                  have n6_ : Aside0 (Below w.heap.size w w188) := ⟨h6_⟩
                                  clear BK115
                                  clear HB
                                  clear h0_ h1_ h2_ h3_ h4_ h5_ h6_
                                  have BK115 := n0_
                                  have BK123 := n1_
                                  have GW123 := n2_
                                  have GE123 := n3_
                                  have NB115_123 := n4_
                                  have NB123_115 := n5_
                                  have HB := n6_
                                  clear n0_ n1_ n2_ n3_ n4_ n5_ n6_
                                  have hHeld : w188.cell? ⟨gb115, 0, none⟩ = some (.int .u32 a0_0) ∧ w188.cell? ⟨gb115, 1, none⟩ = some (.int .u8 a0_1) ∧ w188.cell? ⟨gb115, 2, none⟩ = some (.int .u8 a0_2) := hS_
                                  refine norm_ (a' := ?_) ?_ ?_
                                  rotate_left
                                  · simp only [putAll, Act.put, List.setIfInBounds_toArray, List.set_cons_zero, List.set_cons_succ]
                                    rfl
                                  refine two_ (i := 5) (j := 6) (Ni := some 15) (Nj := some 7) #[true, true, true, true, true, true, false, true, false, false] #[true, true, true, true, true, false, true, true, false, false] rfl rfl rfl rfl (two_of HT_.out (by kernel_rfl)) (by decide) (by decide) (fun K hK => ?_) (fun K hK => ?_)
                                  · skip
                                    refine goes_ Tryd.func18 (by kernel_rfl) rfl #[.agg #[.int .u32 a0_0, .int .u8 a0_1, .int .u8 a0_2], .int .u32 a1, .bool false] (by rfl) rfl rfl (by (try simp only [List.map_toArray, List.map_cons, List.map_nil]); first | done | rfl | (simp only [List.length_drop, List.length_take]; rfl)) ?_
                                    with_reducible refine (attrs_With.calls a0_0 a0_1 a0_2 a1 false t119 t120 t121 _ A5.out).mono ?_
                                    rintro e w189 ⟨rfl, hb⟩
                                    refine ⟨_, rfl, ?_⟩
                                    have n0_ := Aside0.mk (blk_below (g := gb115) (o := .cells #[.int .u32 a0_0, .int .u8 a0_1, .int .u8 a0_2] 24 (0, 0)) (by (with_reducible repeat (first | refine blk_drewN ?_ _ | refine blk_drew ?_ | refine blk_alloc ?_ _)); exact BK115.out) hb)
                                    have n1_ := Aside0.mk (blk_below (g := gb123) (o := .cells #[.int .u32 0, .int .u8 0, .int .u8 0] 24 (0, 0)) (by (with_reducible repeat (first | refine blk_drewN ?_ _ | refine blk_drew ?_ | refine blk_alloc ?_ _)); exact BK123.out) hb)
                                    have n2_ := Aside0.mk (below_step (by repeat (first | (with_reducible first | exact HB.out | apply below_alloc | apply pw_below_drewN | apply below_drew1 | refine below_set ?_ GE115.out | refine below_set ?_ GE123.out) | exact HB.out)) hb)
                                    clear BK115
                                    clear BK123
                                    clear HB
                                    have BK115 := n0_
                                    have BK123 := n1_
                                    have HB := n2_
                                    clear n0_ n1_ n2_
                                    (try clear hb)
                                    (try clear hb2)
                                    (try clear hk)
                                    (try clear hi)
                                    refine hK.out _ _ ⟨(blk_cell BK115.out 0).trans rfl, (blk_cell BK115.out 1).trans rfl, (blk_cell BK115.out 2).trans rfl⟩ (fun hHeld => ?_)
                                    clear hK K
                                    refine norm_ (a' := ?_) ?_ ?_
                                    rotate_left
                                    · show Act.put _ (some 15) _ = _
                                      simp only [Act.put, List.setIfInBounds_toArray, List.set_cons_zero, List.set_cons_succ, i64_w, i32_w]
                                      rfl
                                    exact norm_ (by first | (simp only [putAll, Act.put, List.setIfInBounds_toArray, List.set_cons_zero, List.set_cons_succ]; done) | (simp only [putAll, Act.put, List.setIfInBounds_toArray, List.set_cons_zero, List.set_cons_succ]; rfl)) (hJ2_5_7 (gb123) _ ⟨hHeld, (by (with_reducible repeat (first | refine blk_drewN ?_ _ | refine blk_drew ?_ | refine blk_alloc ?_ _)); exact BK115.out), (by (with_reducible repeat (first | refine blk_drewN ?_ _ | refine blk_drew ?_ | refine blk_alloc ?_ _)); exact BK123.out), GW123.out, GE123.out, NB115_123.out, NB123_115.out, (by repeat (first | (with_reducible first | exact HB.out | apply below_alloc | apply pw_below_drewN | apply below_drew1 | refine below_set ?_ GE115.out | refine below_set ?_ GE123.out) | exact HB.out))⟩)
                                  · skip
                                    refine box_step ?hg (N := 7) ?hd (cs := #[.int .u32 0, .int .u8 0, .int .u8 0]) (t := 24) ?hr ?_; (case hd => rfl); (case hg => rfl); (case hr => first | (go_simp; done) | (go_simp; rfl))
                                    intro gb122 hg w189 hbox hb
                                    have n0_ := Aside0.mk (blk_below (g := gb115) (o := .cells #[.int .u32 a0_0, .int .u8 a0_1, .int .u8 a0_2] 24 (0, 0)) (by (with_reducible repeat (first | refine blk_drewN ?_ _ | refine blk_drew ?_ | refine blk_alloc ?_ _)); exact BK115.out) hb)
                                    have n1_ := Aside0.mk (blk_below (g := gb123) (o := .cells #[.int .u32 0, .int .u8 0, .int .u8 0] 24 (0, 0)) (by (with_reducible repeat (first | refine blk_drewN ?_ _ | refine blk_drew ?_ | refine blk_alloc ?_ _)); exact BK123.out) hb)
                                    have n2_ := Aside0.mk (below_step (by repeat (first | (with_reducible first | exact HB.out | apply below_alloc | apply pw_below_drewN | apply below_drew1 | refine below_set ?_ GE115.out | refine below_set ?_ GE123.out) | exact HB.out)) hb)
                                    have n3_ := Aside0.mk (hbox)
                                    have n4_ := Aside0.mk ((by rw [hg]; exact (below_size (by repeat (first | (with_reducible first | exact HB.out | apply below_alloc | apply pw_below_drewN | apply below_drew1 | refine below_set ?_ GE115.out | refine below_set ?_ GE123.out) | exact HB.out))) : w.heap.size ≤ gb122))
                                    have n5_ := Aside0.mk ((by rw [hg]; exact (below_size (by repeat (first | (with_reducible first | exact HB.out | apply below_alloc | apply pw_below_drewN | apply below_drew1 | refine below_set ?_ GE115.out | refine below_set ?_ GE123.out) | exact HB.out))) : w.heap.size ≤ gb122))
                                    have n6_ := Aside0.mk ((by rw [hg]; exact Nat.ne_of_lt (blk_lt (g := gb115) (o := .cells #[.int .u32 a0_0, .int .u8 a0_1, .int .u8 a0_2] 24 (0, 0)) (by (with_reducible repeat (first | refine blk_drewN ?_ _ | refine blk_drew ?_ | refine blk_alloc ?_ _)); exact BK115.out)) : gb115 ≠ gb122))
                                    have n7_ := Aside0.mk ((by rw [hg]; exact Nat.ne_of_gt (blk_lt (g := gb115) (o := .cells #[.int .u32 a0_0, .int .u8 a0_1, .int .u8 a0_2] 24 (0, 0)) (by (with_reducible repeat (first | refine blk_drewN ?_ _ | refine blk_drew ?_ | refine blk_alloc ?_ _)); exact BK115.out)) : gb122 ≠ gb115))
                                    have n8_ := Aside0.mk ((by rw [hg]; exact Nat.ne_of_lt (blk_lt (g := gb123) (o := .cells #[.int .u32 0, .int .u8 0, .int .u8 0] 24 (0, 0)) (by (with_reducible repeat (first | refine blk_drewN ?_ _ | refine blk_drew ?_ | refine blk_alloc ?_ _)); exact BK123.out)) : gb123 ≠ gb122))
                                    have n9_ := Aside0.mk ((by rw [hg]; exact Nat.ne_of_gt (blk_lt (g := gb123) (o := .cells #[.int .u32 0, .int .u8 0, .int .u8 0] 24 (0, 0)) (by (with_reducible repeat (first | refine blk_drewN ?_ _ | refine blk_drew ?_ | refine blk_alloc ?_ _)); exact BK123.out)) : gb122 ≠ gb123))
                                    clear BK115
                                    clear BK123
                                    clear HB
                                    have BK115 := n0_
                                    have BK123 := n1_
                                    have HB := n2_
                                    have BK122 := n3_
                                    have GW122 := n4_
                                    have GE122 := n5_
                                    have NB115_122 := n6_
                                    have NB122_115 := n7_
                                    have NB123_122 := n8_
                                    have NB122_123 := n9_
                                    clear n0_ n1_ n2_ n3_ n4_ n5_ n6_ n7_ n8_ n9_
                                    clear hb hbox hg
                                    refine hK.out _ _ ⟨(blk_cell BK115.out 0).trans rfl, (blk_cell BK115.out 1).trans rfl, (blk_cell BK115.out 2).trans rfl⟩ (fun hHeld => ?_)
                                    clear hK K
                                    refine norm_ (a' := ?_) ?_ ?_
                                    rotate_left
                                    · show Act.put _ (some 7) _ = _
                                      simp only [Act.put, List.setIfInBounds_toArray, List.set_cons_zero, List.set_cons_succ, i64_w, i32_w]
                                      rfl
                                    exact norm_ (by first | (simp only [putAll, Act.put, List.setIfInBounds_toArray, List.set_cons_zero, List.set_cons_succ]; done) | (simp only [putAll, Act.put, List.setIfInBounds_toArray, List.set_cons_zero, List.set_cons_succ]; rfl)) (hJ2_6_7 (gb122, gb123) _ ⟨hHeld, (by (with_reducible repeat (first | refine blk_drewN ?_ _ | refine blk_drew ?_ | refine blk_alloc ?_ _)); exact BK115.out), (by (with_reducible repeat (first | refine blk_drewN ?_ _ | refine blk_drew ?_ | refine blk_alloc ?_ _)); exact BK122.out), (by (with_reducible repeat (first | refine blk_drewN ?_ _ | refine blk_drew ?_ | refine blk_alloc ?_ _)); exact BK123.out), GW122.out, GE122.out, NB115_122.out, NB122_115.out, NB123_122.out, NB122_123.out, GW123.out, GE123.out, NB115_123.out, NB123_115.out, (by repeat (first | (with_reducible first | exact HB.out | apply below_alloc | apply pw_below_drewN | apply below_drew1 | refine below_set ?_ GE115.out | refine below_set ?_ GE123.out | refine below_set ?_ GE122.out) | exact HB.out))⟩)
                              · skip
                                rintro gb122 w188 ⟨hS_, h0_, h1_, h2_, h3_, h4_, h5_, h6_⟩
                                have n0_ : Aside0 (w188.heap[gb115]? = some (.cells #[.int .u32 a0_0, .int .u8 a0_1, .int .u8 a0_2] 24 (0, 0))) := ⟨h0_⟩
                                have n1_ : Aside0 (w188.heap[gb122]? = some (.cells #[.int .u32 0, .int .u8 0, .int .u8 0] 24 (0, 0))) := ⟨h1_⟩
                                have n2_ : Aside0 (w.heap.size ≤ gb122) := ⟨h2_⟩
                                have n3_ : Aside0 (w.heap.size ≤ gb122) := ⟨h3_⟩
                                have n4_ : Aside0 (gb115 ≠ gb122) := ⟨h4_⟩
                                have n5_ : Aside0 (gb122 ≠ gb115) := ⟨h5_⟩
                                have n6_ : Aside0 (Below w.heap.size w w188) := ⟨h6_⟩
                                clear BK115
                                clear HB
                                clear h0_ h1_ h2_ h3_ h4_ h5_ h6_
                                have BK115 := n0_
                                have BK122 := n1_
                                have GW122 := n2_
                                have GE122 := n3_
                                have NB115_122 := n4_
                                have NB122_115 := n5_
                                have HB := n6_
                                clear n0_ n1_ n2_ n3_ n4_ n5_ n6_
                                have hHeld : w188.cell? ⟨gb115, 0, none⟩ = some (.int .u32 a0_0) ∧ w188.cell? ⟨gb115, 1, none⟩ = some (.int .u8 a0_1) ∧ w188.cell? ⟨gb115, 2, none⟩ = some (.int .u8 a0_2) := hS_
                                refine norm_ (a' := ?_) ?_ ?_
                                rotate_left
                                · simp only [putAll, Act.put, List.setIfInBounds_toArray, List.set_cons_zero, List.set_cons_succ]
                                  rfl
                                refine two_ (i := 5) (j := 7) (Ni := some 15) (Nj := some 8) #[true, true, true, true, true, true, true, false, false, false] #[true, true, true, true, true, false, true, true, false, false] rfl rfl rfl rfl (two_of HT_.out (by kernel_rfl)) (by decide) (by decide) (fun K hK => ?_) (fun K hK => ?_)
                                · skip
                                  refine goes_ Tryd.func18 (by kernel_rfl) rfl #[.agg #[.int .u32 a0_0, .int .u8 a0_1, .int .u8 a0_2], .int .u32 a1, .bool false] (by rfl) rfl rfl (by (try simp only [List.map_toArray, List.map_cons, List.map_nil]); first | done | rfl | (simp only [List.length_drop, List.length_take]; rfl)) ?_
                                  with_reducible refine (attrs_With.calls a0_0 a0_1 a0_2 a1 false t119 t120 t121 _ A5.out).mono ?_
                                  rintro e w189 ⟨rfl, hb⟩
                                  refine ⟨_, rfl, ?_⟩
                                  have n0_ := Aside0.mk (blk_below (g := gb115) (o := .cells #[.int .u32 a0_0, .int .u8 a0_1, .int .u8 a0_2] 24 (0, 0)) (by (with_reducible repeat (first | refine blk_drewN ?_ _ | refine blk_drew ?_ | refine blk_alloc ?_ _)); exact BK115.out) hb)
                                  have n1_ := Aside0.mk (blk_below (g := gb122) (o := .cells #[.int .u32 0, .int .u8 0, .int .u8 0] 24 (0, 0)) (by (with_reducible repeat (first | refine blk_drewN ?_ _ | refine blk_drew ?_ | refine blk_alloc ?_ _)); exact BK122.out) hb)
                                  have n2_ := Aside0.mk (below_step (by repeat (first | (with_reducible first | exact HB.out | apply below_alloc | apply pw_below_drewN | apply below_drew1 | refine below_set ?_ GE115.out | refine below_set ?_ GE122.out) | exact HB.out)) hb)
                                  clear BK115
                                  clear BK122
                                  clear HB
                                  have BK115 := n0_
                                  have BK122 := n1_
                                  have HB := n2_
                                  clear n0_ n1_ n2_
                                  (try clear hb)
                                  (try clear hb2)
                                  (try clear hk)
                                  (try clear hi)
                                  refine hK.out _ _ ⟨(blk_cell BK115.out 0).trans rfl, (blk_cell BK115.out 1).trans rfl, (blk_cell BK115.out 2).trans rfl⟩ (fun hHeld => ?_)
                                  clear hK K
                                  refine norm_ (a' := ?_) ?_ ?_
                                  rotate_left
                                  · show Act.put _ (some 15) _ = _
                                    simp only [Act.put, List.setIfInBounds_toArray, List.set_cons_zero, List.set_cons_succ, i64_w, i32_w]
                                    rfl
                                  exact norm_ (by first | (simp only [putAll, Act.put, List.setIfInBounds_toArray, List.set_cons_zero, List.set_cons_succ]; done) | (simp only [putAll, Act.put, List.setIfInBounds_toArray, List.set_cons_zero, List.set_cons_succ]; rfl)) (hJ2_5_6 (gb122) _ ⟨hHeld, (by (with_reducible repeat (first | refine blk_drewN ?_ _ | refine blk_drew ?_ | refine blk_alloc ?_ _)); exact BK115.out), (by (with_reducible repeat (first | refine blk_drewN ?_ _ | refine blk_drew ?_ | refine blk_alloc ?_ _)); exact BK122.out), GW122.out, GE122.out, NB115_122.out, NB122_115.out, (by repeat (first | (with_reducible first | exact HB.out | apply below_alloc | apply pw_below_drewN | apply below_drew1 | refine below_set ?_ GE115.out | refine below_set ?_ GE122.out) | exact HB.out))⟩)
                                · skip
                                  refine box_step ?hg (N := 8) ?hd (cs := #[.int .u32 0, .int .u8 0, .int .u8 0]) (t := 24) ?hr ?_; (case hd => rfl); (case hg => rfl); (case hr => first | (go_simp; done) | (go_simp; rfl))
                                  intro gb123 hg w189 hbox hb
                                  have n0_ := Aside0.mk (blk_below (g := gb115) (o := .cells #[.int .u32 a0_0, .int .u8 a0_1, .int .u8 a0_2] 24 (0, 0)) (by (with_reducible repeat (first | refine blk_drewN ?_ _ | refine blk_drew ?_ | refine blk_alloc ?_ _)); exact BK115.out) hb)
                                  have n1_ := Aside0.mk (blk_below (g := gb122) (o := .cells #[.int .u32 0, .int .u8 0, .int .u8 0] 24 (0, 0)) (by (with_reducible repeat (first | refine blk_drewN ?_ _ | refine blk_drew ?_ | refine blk_alloc ?_ _)); exact BK122.out) hb)
                                  have n2_ := Aside0.mk (below_step (by repeat (first | (with_reducible first | exact HB.out | apply below_alloc | apply pw_below_drewN | apply below_drew1 | refine below_set ?_ GE115.out | refine below_set ?_ GE122.out) | exact HB.out)) hb)
                                  have n3_ := Aside0.mk (hbox)
                                  have n4_ := Aside0.mk ((by rw [hg]; exact (below_size (by repeat (first | (with_reducible first | exact HB.out | apply below_alloc | apply pw_below_drewN | apply below_drew1 | refine below_set ?_ GE115.out | refine below_set ?_ GE122.out) | exact HB.out))) : w.heap.size ≤ gb123))
                                  have n5_ := Aside0.mk ((by rw [hg]; exact (below_size (by repeat (first | (with_reducible first | exact HB.out | apply below_alloc | apply pw_below_drewN | apply below_drew1 | refine below_set ?_ GE115.out | refine below_set ?_ GE122.out) | exact HB.out))) : w.heap.size ≤ gb123))
                                  have n6_ := Aside0.mk ((by rw [hg]; exact Nat.ne_of_lt (blk_lt (g := gb115) (o := .cells #[.int .u32 a0_0, .int .u8 a0_1, .int .u8 a0_2] 24 (0, 0)) (by (with_reducible repeat (first | refine blk_drewN ?_ _ | refine blk_drew ?_ | refine blk_alloc ?_ _)); exact BK115.out)) : gb115 ≠ gb123))
                                  have n7_ := Aside0.mk ((by rw [hg]; exact Nat.ne_of_gt (blk_lt (g := gb115) (o := .cells #[.int .u32 a0_0, .int .u8 a0_1, .int .u8 a0_2] 24 (0, 0)) (by (with_reducible repeat (first | refine blk_drewN ?_ _ | refine blk_drew ?_ | refine blk_alloc ?_ _)); exact BK115.out)) : gb123 ≠ gb115))
                                  have n8_ := Aside0.mk ((by rw [hg]; exact Nat.ne_of_lt (blk_lt (g := gb122) (o := .cells #[.int .u32 0, .int .u8 0, .int .u8 0] 24 (0, 0)) (by (with_reducible repeat (first | refine blk_drewN ?_ _ | refine blk_drew ?_ | refine blk_alloc ?_ _)); exact BK122.out)) : gb122 ≠ gb123))
                                  have n9_ := Aside0.mk ((by rw [hg]; exact Nat.ne_of_gt (blk_lt (g := gb122) (o := .cells #[.int .u32 0, .int .u8 0, .int .u8 0] 24 (0, 0)) (by (with_reducible repeat (first | refine blk_drewN ?_ _ | refine blk_drew ?_ | refine blk_alloc ?_ _)); exact BK122.out)) : gb123 ≠ gb122))
                                  clear BK115
                                  clear BK122
                                  clear HB
                                  have BK115 := n0_
                                  have BK122 := n1_
                                  have HB := n2_
                                  have BK123 := n3_
                                  have GW123 := n4_
                                  have GE123 := n5_
                                  have NB115_123 := n6_
                                  have NB123_115 := n7_
                                  have NB122_123 := n8_
                                  have NB123_122 := n9_
                                  clear n0_ n1_ n2_ n3_ n4_ n5_ n6_ n7_ n8_ n9_
                                  clear hb hbox hg
                                  refine hK.out _ _ ⟨(blk_cell BK115.out 0).trans rfl, (blk_cell BK115.out 1).trans rfl, (blk_cell BK115.out 2).trans rfl⟩ (fun hHeld => ?_)
                                  clear hK K
                                  refine norm_ (a' := ?_) ?_ ?_
                                  rotate_left
                                  · show Act.put _ (some 8) _ = _
                                    simp only [Act.put, List.setIfInBounds_toArray, List.set_cons_zero, List.set_cons_succ, i64_w, i32_w]
                                    rfl
                                  exact norm_ (by first | (simp only [putAll, Act.put, List.setIfInBounds_toArray, List.set_cons_zero, List.set_cons_succ]; done) | (simp only [putAll, Act.put, List.setIfInBounds_toArray, List.set_cons_zero, List.set_cons_succ]; rfl)) (hJ2_6_7 (gb122, gb123) _ ⟨hHeld, (by (with_reducible repeat (first | refine blk_drewN ?_ _ | refine blk_drew ?_ | refine blk_alloc ?_ _)); exact BK115.out), (by (with_reducible repeat (first | refine blk_drewN ?_ _ | refine blk_drew ?_ | refine blk_alloc ?_ _)); exact BK122.out), (by (with_reducible repeat (first | refine blk_drewN ?_ _ | refine blk_drew ?_ | refine blk_alloc ?_ _)); exact BK123.out), GW122.out, GE122.out, NB115_122.out, NB122_115.out, NB123_122.out, NB122_123.out, GW123.out, GE123.out, NB115_123.out, NB123_115.out, (by repeat (first | (with_reducible first | exact HB.out | apply below_alloc | apply pw_below_drewN | apply below_drew1 | refine below_set ?_ GE115.out | refine below_set ?_ GE122.out | refine below_set ?_ GE123.out) | exact HB.out))⟩)
                            · skip
                              rintro _ w188 ⟨hS_, h0_, h1_⟩
                              have n0_ : Aside0 (w188.heap[gb115]? = some (.cells #[.int .u32 a0_0, .int .u8 a0_1, .int .u8 a0_2] 24 (0, 0))) := ⟨h0_⟩
                              have n1_ : Aside0 (Below w.heap.size w w188) := ⟨h1_⟩
                              clear BK115
                              clear HB
                              clear h0_ h1_
                              have BK115 := n0_
                              have HB := n1_
                              clear n0_ n1_
                              have hHeld : w188.cell? ⟨gb115, 0, none⟩ = some (.int .u32 a0_0) ∧ w188.cell? ⟨gb115, 1, none⟩ = some (.int .u8 a0_1) ∧ w188.cell? ⟨gb115, 2, none⟩ = some (.int .u8 a0_2) := hS_
                              refine norm_ (a' := ?_) ?_ ?_
                              rotate_left
                              · simp only [putAll, Act.put, List.setIfInBounds_toArray, List.set_cons_zero, List.set_cons_succ]
                                rfl
                              refine two_ (i := 6) (j := 7) (Ni := some 7) (Nj := some 8) #[true, true, true, true, true, true, true, false, false, false] #[true, true, true, true, true, true, false, true, false, false] rfl rfl rfl rfl (two_of HT_.out (by kernel_rfl)) (by decide) (by decide) (fun K hK => ?_) (fun K hK => ?_)
                              · skip
                                refine box_step ?hg (N := 7) ?hd (cs := #[.int .u32 0, .int .u8 0, .int .u8 0]) (t := 24) ?hr ?_; (case hd => rfl); (case hg => rfl); (case hr => first | (go_simp; done) | (go_simp; rfl))
                                intro gb122 hg w189 hbox hb
                                have n0_ := Aside0.mk (blk_below (g := gb115) (o := .cells #[.int .u32 a0_0, .int .u8 a0_1, .int .u8 a0_2] 24 (0, 0)) (by (with_reducible repeat (first | refine blk_drewN ?_ _ | refine blk_drew ?_ | refine blk_alloc ?_ _)); exact BK115.out) hb)
                                have n1_ := Aside0.mk (below_step (by repeat (first | (with_reducible first | exact HB.out | apply below_alloc | apply pw_below_drewN | apply below_drew1 | refine below_set ?_ GE115.out) | exact HB.out)) hb)
                                have n2_ := Aside0.mk (hbox)
                                have n3_ := Aside0.mk ((by rw [hg]; exact (below_size (by repeat (first | (with_reducible first | exact HB.out | apply below_alloc | apply pw_below_drewN | apply below_drew1 | refine below_set ?_ GE115.out) | exact HB.out))) : w.heap.size ≤ gb122))
                                have n4_ := Aside0.mk ((by rw [hg]; exact (below_size (by repeat (first | (with_reducible first | exact HB.out | apply below_alloc | apply pw_below_drewN | apply below_drew1 | refine below_set ?_ GE115.out) | exact HB.out))) : w.heap.size ≤ gb122))
                                have n5_ := Aside0.mk ((by rw [hg]; exact Nat.ne_of_lt (blk_lt (g := gb115) (o := .cells #[.int .u32 a0_0, .int .u8 a0_1, .int .u8 a0_2] 24 (0, 0)) (by (with_reducible repeat (first | refine blk_drewN ?_ _ | refine blk_drew ?_ | refine blk_alloc ?_ _)); exact BK115.out)) : gb115 ≠ gb122))
                                have n6_ := Aside0.mk ((by rw [hg]; exact Nat.ne_of_gt (blk_lt (g := gb115) (o := .cells #[.int .u32 a0_0, .int .u8 a0_1, .int .u8 a0_2] 24 (0, 0)) (by (with_reducible repeat (first | refine blk_drewN ?_ _ | refine blk_drew ?_ | refine blk_alloc ?_ _)); exact BK115.out)) : gb122 ≠ gb115))
                                clear BK115
                                clear HB
                                have BK115 := n0_
                                have HB := n1_
                                have BK122 := n2_
                                have GW122 := n3_
                                have GE122 := n4_
                                have NB115_122 := n5_
                                have NB122_115 := n6_
                                clear n0_ n1_ n2_ n3_ n4_ n5_ n6_
                                clear hb hbox hg
                                refine hK.out _ _ ⟨(blk_cell BK115.out 0).trans rfl, (blk_cell BK115.out 1).trans rfl, (blk_cell BK115.out 2).trans rfl⟩ (fun hHeld => ?_)
                                clear hK K
                                refine norm_ (a' := ?_) ?_ ?_
                                rotate_left
                                · show Act.put _ (some 7) _ = _
                                  simp only [Act.put, List.setIfInBounds_toArray, List.set_cons_zero, List.set_cons_succ, i64_w, i32_w]
                                  rfl
                                exact norm_ (by first | (simp only [putAll, Act.put, List.setIfInBounds_toArray, List.set_cons_zero, List.set_cons_succ]; done) | (simp only [putAll, Act.put, List.setIfInBounds_toArray, List.set_cons_zero, List.set_cons_succ]; rfl)) (hJ2_5_6 (gb122) _ ⟨hHeld, (by (with_reducible repeat (first | refine blk_drewN ?_ _ | refine blk_drew ?_ | refine blk_alloc ?_ _)); exact BK115.out), (by (with_reducible repeat (first | refine blk_drewN ?_ _ | refine blk_drew ?_ | refine blk_alloc ?_ _)); exact BK122.out), GW122.out, GE122.out, NB115_122.out, NB122_115.out, (by repeat (first | (with_reducible first | exact HB.out | apply below_alloc | apply pw_below_drewN | apply below_drew1 | refine below_set ?_ GE115.out | refine below_set ?_ GE122.out) | exact HB.out))⟩)
                              · skip
                                refine box_step ?hg (N := 8) ?hd (cs := #[.int .u32 0, .int .u8 0, .int .u8 0]) (t := 24) ?hr ?_; (case hd => rfl); (case hg => rfl); (case hr => first | (go_simp; done) | (go_simp; rfl))
                                intro gb123 hg w189 hbox hb
                                have n0_ := Aside0.mk (blk_below (g := gb115) (o := .cells #[.int .u32 a0_0, .int .u8 a0_1, .int .u8 a0_2] 24 (0, 0)) (by (with_reducible repeat (first | refine blk_drewN ?_ _ | refine blk_drew ?_ | refine blk_alloc ?_ _)); exact BK115.out) hb)
                                have n1_ := Aside0.mk (below_step (by repeat (first | (with_reducible first | exact HB.out | apply below_alloc | apply pw_below_drewN | apply below_drew1 | refine below_set ?_ GE115.out) | exact HB.out)) hb)
                                have n2_ := Aside0.mk (hbox)
                                have n3_ := Aside0.mk ((by rw [hg]; exact (below_size (by repeat (first | (with_reducible first | exact HB.out | apply below_alloc | apply pw_below_drewN | apply below_drew1 | refine below_set ?_ GE115.out) | exact HB.out))) : w.heap.size ≤ gb123))
                                have n4_ := Aside0.mk ((by rw [hg]; exact (below_size (by repeat (first | (with_reducible first | exact HB.out | apply below_alloc | apply pw_below_drewN | apply below_drew1 | refine below_set ?_ GE115.out) | exact HB.out))) : w.heap.size ≤ gb123))
                                have n5_ := Aside0.mk ((by rw [hg]; exact Nat.ne_of_lt (blk_lt (g := gb115) (o := .cells #[.int .u32 a0_0, .int .u8 a0_1, .int .u8 a0_2] 24 (0, 0)) (by (with_reducible repeat (first | refine blk_drewN ?_ _ | refine blk_drew ?_ | refine blk_alloc ?_ _)); exact BK115.out)) : gb115 ≠ gb123))
                                have n6_ := Aside0.mk ((by rw [hg]; exact Nat.ne_of_gt (blk_lt (g := gb115) (o := .cells #[.int .u32 a0_0, .int .u8 a0_1, .int .u8 a0_2] 24 (0, 0)) (by (with_reducible repeat (first | refine blk_drewN ?_ _ | refine blk_drew ?_ | refine blk_alloc ?_ _)); exact BK115.out)) : gb123 ≠ gb115))
                                clear BK115
                                clear HB
                                have BK115 := n0_
                                have HB := n1_
                                have BK123 := n2_
                                have GW123 := n3_
                                have GE123 := n4_
                                have NB115_123 := n5_
                                have NB123_115 := n6_
                                clear n0_ n1_ n2_ n3_ n4_ n5_ n6_
                                clear hb hbox hg
                                refine hK.out _ _ ⟨(blk_cell BK115.out 0).trans rfl, (blk_cell BK115.out 1).trans rfl, (blk_cell BK115.out 2).trans rfl⟩ (fun hHeld => ?_)
                                clear hK K
                                refine norm_ (a' := ?_) ?_ ?_
                                rotate_left
                                · show Act.put _ (some 8) _ = _
                                  simp only [Act.put, List.setIfInBounds_toArray, List.set_cons_zero, List.set_cons_succ, i64_w, i32_w]
                                  rfl
                                exact norm_ (by first | (simp only [putAll, Act.put, List.setIfInBounds_toArray, List.set_cons_zero, List.set_cons_succ]; done) | (simp only [putAll, Act.put, List.setIfInBounds_toArray, List.set_cons_zero, List.set_cons_succ]; rfl)) (hJ2_5_7 (gb123) _ ⟨hHeld, (by (with_reducible repeat (first | refine blk_drewN ?_ _ | refine blk_drew ?_ | refine blk_alloc ?_ _)); exact BK115.out), (by (with_reducible repeat (first | refine blk_drewN ?_ _ | refine blk_drew ?_ | refine blk_alloc ?_ _)); exact BK123.out), GW123.out, GE123.out, NB115_123.out, NB123_115.out, (by repeat (first | (with_reducible first | exact HB.out | apply below_alloc | apply pw_below_drewN | apply below_drew1 | refine below_set ?_ GE115.out | refine below_set ?_ GE123.out) | exact HB.out))⟩)
                          · skip
                            rintro ⟨gb122, gb123⟩ w189 ⟨hS_, h0_, h1_, h2_, h3_, h4_, h5_, h6_, h7_, h8_, h9_, h10_, h11_, h12_, h13_⟩
                            have n0_ : Aside0 (w189.heap[gb115]? = some (.cells #[.int .u32 a0_0, .int .u8 a0_1, .int .u8 a0_2] 24 (0, 0))) := ⟨h0_⟩
                            have n1_ : Aside0 (w189.heap[gb122]? = some (.cells #[.int .u32 0, .int .u8 0, .int .u8 0] 24 (0, 0))) := ⟨h1_⟩
                            have n2_ : Aside0 (w189.heap[gb123]? = some (.cells #[.int .u32 0, .int .u8 0, .int .u8 0] 24 (0, 0))) := ⟨h2_⟩
                            have n3_ : Aside0 (w.heap.size ≤ gb122) := ⟨h3_⟩
                            have n4_ : Aside0 (w.heap.size ≤ gb122) := ⟨h4_⟩
                            have n5_ : Aside0 (gb115 ≠ gb122) := ⟨h5_⟩
                            have n6_ : Aside0 (gb122 ≠ gb115) := ⟨h6_⟩
                            have n7_ : Aside0 (gb123 ≠ gb122) := ⟨h7_⟩
                            have n8_ : Aside0 (gb122 ≠ gb123) := ⟨h8_⟩
                            have n9_ : Aside0 (w.heap.size ≤ gb123) := ⟨h9_⟩
                            have n10_ : Aside0 (w.heap.size ≤ gb123) := ⟨h10_⟩
                            have n11_ : Aside0 (gb115 ≠ gb123) := ⟨h11_⟩
                            have n12_ : Aside0 (gb123 ≠ gb115) := ⟨h12_⟩
                            have n13_ : Aside0 (Below w.heap.size w w189) := ⟨h13_⟩
                            clear BK115
                            clear HB
                            clear h0_ h1_ h2_ h3_ h4_ h5_ h6_ h7_ h8_ h9_ h10_ h11_ h12_ h13_
                            have BK115 := n0_
                            have BK122 := n1_
                            have BK123 := n2_
                            have GW122 := n3_
                            have GE122 := n4_
                            have NB115_122 := n5_
                            have NB122_115 := n6_
                            have NB123_122 := n7_
                            have NB122_123 := n8_
                            have GW123 := n9_
                            have GE123 := n10_
                            have NB115_123 := n11_
                            have NB123_115 := n12_
                            have HB := n13_
                            clear n0_ n1_ n2_ n3_ n4_ n5_ n6_ n7_ n8_ n9_ n10_ n11_ n12_ n13_
                            have hHeld : w189.cell? ⟨gb115, 0, none⟩ = some (.int .u32 a0_0) ∧ w189.cell? ⟨gb115, 1, none⟩ = some (.int .u8 a0_1) ∧ w189.cell? ⟨gb115, 2, none⟩ = some (.int .u8 a0_2) := hS_
                            refine norm_ (a' := ?_) ?_ ?_
                            rotate_left
                            · simp only [putAll, Act.put, List.setIfInBounds_toArray, List.set_cons_zero, List.set_cons_succ]
                              rfl
                            refine one_ (i := 5) (N := some 15) #[true, true, true, true, true, true, true, true, false, false] rfl rfl (one_of HT_.out (by kernel_rfl)) (by decide) (fun K hK => ?_)
                            refine goes_ Tryd.func18 (by kernel_rfl) rfl #[.agg #[.int .u32 a0_0, .int .u8 a0_1, .int .u8 a0_2], .int .u32 a1, .bool false] (by rfl) rfl rfl (by (try simp only [List.map_toArray, List.map_cons, List.map_nil]); first | done | rfl | (simp only [List.length_drop, List.length_take]; rfl)) ?_
                            with_reducible refine (attrs_With.calls a0_0 a0_1 a0_2 a1 false t119 t120 t121 _ A5.out).mono ?_
                            rintro e w190 ⟨rfl, hb⟩
                            refine ⟨_, rfl, ?_⟩
                            have n0_ := Aside0.mk (blk_below (g := gb115) (o := .cells #[.int .u32 a0_0, .int .u8 a0_1, .int .u8 a0_2] 24 (0, 0)) (by (with_reducible repeat (first | refine blk_drewN ?_ _ | refine blk_drew ?_ | refine blk_alloc ?_ _)); exact BK115.out) hb)
                            have n1_ := Aside0.mk (blk_below (g := gb122) (o := .cells #[.int .u32 0, .int .u8 0, .int .u8 0] 24 (0, 0)) (by (with_reducible repeat (first | refine blk_drewN ?_ _ | refine blk_drew ?_ | refine blk_alloc ?_ _)); exact BK122.out) hb)
                            have n2_ := Aside0.mk (blk_below (g := gb123) (o := .cells #[.int .u32 0, .int .u8 0, .int .u8 0] 24 (0, 0)) (by (with_reducible repeat (first | refine blk_drewN ?_ _ | refine blk_drew ?_ | refine blk_alloc ?_ _)); exact BK123.out) hb)
                            have n3_ := Aside0.mk (below_step (by repeat (first | (with_reducible first | exact HB.out | apply below_alloc | apply pw_below_drewN | apply below_drew1 | refine below_set ?_ GE115.out | refine below_set ?_ GE122.out | refine below_set ?_ GE123.out) | exact HB.out)) hb)
                            clear BK115
                            clear BK122
                            clear BK123
                            clear HB
                            have BK115 := n0_
                            have BK122 := n1_
                            have BK123 := n2_
                            have HB := n3_
                            clear n0_ n1_ n2_ n3_
                            (try clear hb)
                            (try clear hb2)
                            (try clear hk)
                            (try clear hi)
                            refine hK.out _ _ ⟨(blk_cell BK115.out 0).trans rfl, (blk_cell BK115.out 1).trans rfl, (blk_cell BK115.out 2).trans rfl⟩ (fun hHeld => ?_)
                            clear hK K
                            refine norm_ (a' := ?_) ?_ ?_
                            rotate_left
                            · show Act.put _ (some 15) _ = _
                              simp only [Act.put, List.setIfInBounds_toArray, List.set_cons_zero, List.set_cons_succ, i64_w, i32_w]
                              rfl
                            exact norm_ (by first | (simp only [putAll, Act.put, List.setIfInBounds_toArray, List.set_cons_zero, List.set_cons_succ]; done) | (simp only [putAll, Act.put, List.setIfInBounds_toArray, List.set_cons_zero, List.set_cons_succ]; rfl)) (hJ2_5_6_7 (gb122, gb123) _ ⟨hHeld, (by (with_reducible repeat (first | refine blk_drewN ?_ _ | refine blk_drew ?_ | refine blk_alloc ?_ _)); exact BK115.out), (by (with_reducible repeat (first | refine blk_drewN ?_ _ | refine blk_drew ?_ | refine blk_alloc ?_ _)); exact BK122.out), (by (with_reducible repeat (first | refine blk_drewN ?_ _ | refine blk_drew ?_ | refine blk_alloc ?_ _)); exact BK123.out), GW122.out, GE122.out, NB115_122.out, NB122_115.out, NB123_122.out, NB122_123.out, GW123.out, GE123.out, NB115_123.out, NB123_115.out, (by repeat (first | (with_reducible first | exact HB.out | apply below_alloc | apply pw_below_drewN | apply below_drew1 | refine below_set ?_ GE115.out | refine below_set ?_ GE122.out | refine below_set ?_ GE123.out) | exact HB.out))⟩)
                        · skip
                          rintro gb123 w189 ⟨hS_, h0_, h1_, h2_, h3_, h4_, h5_, h6_⟩
                          have n0_ : Aside0 (w189.heap[gb115]? = some (.cells #[.int .u32 a0_0, .int .u8 a0_1, .int .u8 a0_2] 24 (0, 0))) := ⟨h0_⟩
                          have n1_ : Aside0 (w189.heap[gb123]? = some (.cells #[.int .u32 0, .int .u8 0, .int .u8 0] 24 (0, 0))) := ⟨h1_⟩
                          have n2_ : Aside0 (w.heap.size ≤ gb123) := ⟨h2_⟩
                          have n3_ : Aside0 (w.heap.size ≤ gb123) := ⟨h3_⟩
                          have n4_ : Aside0 (gb115 ≠ gb123) := ⟨h4_⟩
                          have n5_ : Aside0 (gb123 ≠ gb115) := ⟨h5_⟩
                          have n6_ : Aside0 (Below w.heap.size w w189) := ⟨h6_⟩
                          clear BK115
                          clear HB
                          clear h0_ h1_ h2_ h3_ h4_ h5_ h6_
                          have BK115 := n0_
                          have BK123 := n1_
                          have GW123 := n2_
                          have GE123 := n3_
                          have NB115_123 := n4_
                          have NB123_115 := n5_
                          have HB := n6_
                          clear n0_ n1_ n2_ n3_ n4_ n5_ n6_
                          have hHeld : w189.cell? ⟨gb115, 0, none⟩ = some (.int .u32 a0_0) ∧ w189.cell? ⟨gb115, 1, none⟩ = some (.int .u8 a0_1) ∧ w189.cell? ⟨gb115, 2, none⟩ = some (.int .u8 a0_2) := hS_
                          refine norm_ (a' := ?_) ?_ ?_
                          rotate_left
                          · simp only [putAll, Act.put, List.setIfInBounds_toArray, List.set_cons_zero, List.set_cons_succ]
                            rfl
                          refine one_ (i := 6) (N := some 7) #[true, true, true, true, true, true, true, true, false, false] rfl rfl (one_of HT_.out (by kernel_rfl)) (by decide) (fun K hK => ?_)
                          refine box_step ?hg (N := 7) ?hd (cs := #[.int .u32 0, .int .u8 0, .int .u8 0]) (t := 24) ?hr ?_; (case hd => rfl); (case hg => rfl); (case hr => first | (go_simp; done) | (go_simp; rfl))
                          intro gb122 hg w190 hbox hb
                          have n0_ := Aside0.mk (blk_below (g := gb115) (o := .cells #[.int .u32 a0_0, .int .u8 a0_1, .int .u8 a0_2] 24 (0, 0)) (by (with_reducible repeat (first | refine blk_drewN ?_ _ | refine blk_drew ?_ | refine blk_alloc ?_ _)); exact BK115.out) hb)
                          have n1_ := Aside0.mk (blk_below (g := gb123) (o := .cells #[.int .u32 0, .int .u8 0, .int .u8 0] 24 (0, 0)) (by (with_reducible repeat (first | refine blk_drewN ?_ _ | refine blk_drew ?_ | refine blk_alloc ?_ _)); exact BK123.out) hb)
                          have n2_ := Aside0.mk (below_step (by repeat (first | (with_reducible first | exact HB.out | apply below_alloc | apply pw_below_drewN | apply below_drew1 | refine below_set ?_ GE115.out | refine below_set ?_ GE123.out) | exact HB.out)) hb)
                          have n3_ := Aside0.mk (hbox)
                          have n4_ := Aside0.mk ((by rw [hg]; exact (below_size (by repeat (first | (with_reducible first | exact HB.out | apply below_alloc | apply pw_below_drewN | apply below_drew1 | refine below_set ?_ GE115.out | refine below_set ?_ GE123.out) | exact HB.out))) : w.heap.size ≤ gb122))
                          have n5_ := Aside0.mk ((by rw [hg]; exact (below_size (by repeat (first | (with_reducible first | exact HB.out | apply below_alloc | apply pw_below_drewN | apply below_drew1 | refine below_set ?_ GE115.out | refine below_set ?_ GE123.out) | exact HB.out))) : w.heap.size ≤ gb122))
                          have n6_ := Aside0.mk ((by rw [hg]; exact Nat.ne_of_lt (blk_lt (g := gb115) (o := .cells #[.int .u32 a0_0, .int .u8 a0_1, .int .u8 a0_2] 24 (0, 0)) (by (with_reducible repeat (first | refine blk_drewN ?_ _ | refine blk_drew ?_ | refine blk_alloc ?_ _)); exact BK115.out)) : gb115 ≠ gb122))
                          have n7_ := Aside0.mk ((by rw [hg]; exact Nat.ne_of_gt (blk_lt (g := gb115) (o := .cells #[.int .u32 a0_0, .int .u8 a0_1, .int .u8 a0_2] 24 (0, 0)) (by (with_reducible repeat (first | refine blk_drewN ?_ _ | refine blk_drew ?_ | refine blk_alloc ?_ _)); exact BK115.out)) : gb122 ≠ gb115))
                          have n8_ := Aside0.mk ((by rw [hg]; exact Nat.ne_of_lt (blk_lt (g := gb123) (o := .cells #[.int .u32 0, .int .u8 0, .int .u8 0] 24 (0, 0)) (by (with_reducible repeat (first | refine blk_drewN ?_ _ | refine blk_drew ?_ | refine blk_alloc ?_ _)); exact BK123.out)) : gb123 ≠ gb122))
                          have n9_ := Aside0.mk ((by rw [hg]; exact Nat.ne_of_gt (blk_lt (g := gb123) (o := .cells #[.int .u32 0, .int .u8 0, .int .u8 0] 24 (0, 0)) (by (with_reducible repeat (first | refine blk_drewN ?_ _ | refine blk_drew ?_ | refine blk_alloc ?_ _)); exact BK123.out)) : gb122 ≠ gb123))
                          clear BK115
                          clear BK123
                          clear HB
                          have BK115 := n0_
                          have BK123 := n1_
                          have HB := n2_
                          have BK122 := n3_
                          have GW122 := n4_
                          have GE122 := n5_
                          have NB115_122 := n6_
                          have NB122_115 := n7_
                          have NB123_122 := n8_
                          have NB122_123 := n9_
                          clear n0_ n1_ n2_ n3_ n4_ n5_ n6_ n7_ n8_ n9_
                          clear hb hbox hg
                          refine hK.out _ _ ⟨(blk_cell BK115.out 0).trans rfl, (blk_cell BK115.out 1).trans rfl, (blk_cell BK115.out 2).trans rfl⟩ (fun hHeld => ?_)
                          clear hK K
                          refine norm_ (a' := ?_) ?_ ?_
                          rotate_left
                          · show Act.put _ (some 7) _ = _
                            simp only [Act.put, List.setIfInBounds_toArray, List.set_cons_zero, List.set_cons_succ, i64_w, i32_w]
                            rfl
                          exact norm_ (by first | (simp only [putAll, Act.put, List.setIfInBounds_toArray, List.set_cons_zero, List.set_cons_succ]; done) | (simp only [putAll, Act.put, List.setIfInBounds_toArray, List.set_cons_zero, List.set_cons_succ]; rfl)) (hJ2_5_6_7 (gb122, gb123) _ ⟨hHeld, (by (with_reducible repeat (first | refine blk_drewN ?_ _ | refine blk_drew ?_ | refine blk_alloc ?_ _)); exact BK115.out), (by (with_reducible repeat (first | refine blk_drewN ?_ _ | refine blk_drew ?_ | refine blk_alloc ?_ _)); exact BK122.out), (by (with_reducible repeat (first | refine blk_drewN ?_ _ | refine blk_drew ?_ | refine blk_alloc ?_ _)); exact BK123.out), GW122.out, GE122.out, NB115_122.out, NB122_115.out, NB123_122.out, NB122_123.out, GW123.out, GE123.out, NB115_123.out, NB123_115.out, (by repeat (first | (with_reducible first | exact HB.out | apply below_alloc | apply pw_below_drewN | apply below_drew1 | refine below_set ?_ GE115.out | refine below_set ?_ GE123.out | refine below_set ?_ GE122.out) | exact HB.out))⟩)
                      · skip
                        rintro gb122 w189 ⟨hS_, h0_, h1_, h2_, h3_, h4_, h5_, h6_⟩
                        have n0_ : Aside0 (w189.heap[gb115]? = some (.cells #[.int .u32 a0_0, .int .u8 a0_1, .int .u8 a0_2] 24 (0, 0))) := ⟨h0_⟩
                        have n1_ : Aside0 (w189.heap[gb122]? = some (.cells #[.int .u32 0, .int .u8 0, .int .u8 0] 24 (0, 0))) := ⟨h1_⟩
                        have n2_ : Aside0 (w.heap.size ≤ gb122) := ⟨h2_⟩
                        have n3_ : Aside0 (w.heap.size ≤ gb122) := ⟨h3_⟩
                        have n4_ : Aside0 (gb115 ≠ gb122) := ⟨h4_⟩
                        have n5_ : Aside0 (gb122 ≠ gb115) := ⟨h5_⟩
                        have n6_ : Aside0 (Below w.heap.size w w189) := ⟨h6_⟩
                        clear BK115
                        clear HB
                        clear h0_ h1_ h2_ h3_ h4_ h5_ h6_
                        have BK115 := n0_
                        have BK122 := n1_
                        have GW122 := n2_
                        have GE122 := n3_
                        have NB115_122 := n4_
                        have NB122_115 := n5_
                        have HB := n6_
                        clear n0_ n1_ n2_ n3_ n4_ n5_ n6_
                        have hHeld : w189.cell? ⟨gb115, 0, none⟩ = some (.int .u32 a0_0) ∧ w189.cell? ⟨gb115, 1, none⟩ = some (.int .u8 a0_1) ∧ w189.cell? ⟨gb115, 2, none⟩ = some (.int .u8 a0_2) := hS_
                        refine norm_ (a' := ?_) ?_ ?_
                        rotate_left
                        · simp only [putAll, Act.put, List.setIfInBounds_toArray, List.set_cons_zero, List.set_cons_succ]
                          rfl
                        refine one_ (i := 7) (N := some 8) #[true, true, true, true, true, true, true, true, false, false] rfl rfl (one_of HT_.out (by kernel_rfl)) (by decide) (fun K hK => ?_)
                        refine box_step ?hg (N := 8) ?hd (cs := #[.int .u32 0, .int .u8 0, .int .u8 0]) (t := 24) ?hr ?_; (case hd => rfl); (case hg => rfl); (case hr => first | (go_simp; done) | (go_simp; rfl))
                        intro gb123 hg w190 hbox hb
                        have n0_ := Aside0.mk (blk_below (g := gb115) (o := .cells #[.int .u32 a0_0, .int .u8 a0_1, .int .u8 a0_2] 24 (0, 0)) (by (with_reducible repeat (first | refine blk_drewN ?_ _ | refine blk_drew ?_ | refine blk_alloc ?_ _)); exact BK115.out) hb)
                        have n1_ := Aside0.mk (blk_below (g := gb122) (o := .cells #[.int .u32 0, .int .u8 0, .int .u8 0] 24 (0, 0)) (by (with_reducible repeat (first | refine blk_drewN ?_ _ | refine blk_drew ?_ | refine blk_alloc ?_ _)); exact BK122.out) hb)
                        have n2_ := Aside0.mk (below_step (by repeat (first | (with_reducible first | exact HB.out | apply below_alloc | apply pw_below_drewN | apply below_drew1 | refine below_set ?_ GE115.out | refine below_set ?_ GE122.out) | exact HB.out)) hb)
                        have n3_ := Aside0.mk (hbox)
                        have n4_ := Aside0.mk ((by rw [hg]; exact (below_size (by repeat (first | (with_reducible first | exact HB.out | apply below_alloc | apply pw_below_drewN | apply below_drew1 | refine below_set ?_ GE115.out | refine below_set ?_ GE122.out) | exact HB.out))) : w.heap.size ≤ gb123))
                        have n5_ := Aside0.mk ((by rw [hg]; exact (below_size (by repeat (first | (with_reducible first | exact HB.out | apply below_alloc | apply pw_below_drewN | apply below_drew1 | refine below_set ?_ GE115.out | refine below_set ?_ GE122.out) | exact HB.out))) : w.heap.size ≤ gb123))
                        have n6_ := Aside0.mk ((by rw [hg]; exact Nat.ne_of_lt (blk_lt (g := gb115) (o := .cells #[.int .u32 a0_0, .int .u8 a0_1, .int .u8 a0_2] 24 (0, 0)) (by (with_reducible repeat (first | refine blk_drewN ?_ _ | refine blk_drew ?_ | refine blk_alloc ?_ _)); exact BK115.out)) : gb115 ≠ gb123))
                        have n7_ := Aside0.mk ((by rw [hg]; exact Nat.ne_of_gt (blk_lt (g := gb115) (o := .cells #[.int .u32 a0_0, .int .u8 a0_1, .int .u8 a0_2] 24 (0, 0)) (by (with_reducible repeat (first | refine blk_drewN ?_ _ | refine blk_drew ?_ | refine blk_alloc ?_ _)); exact BK115.out)) : gb123 ≠ gb115))
                        have n8_ := Aside0.mk ((by rw [hg]; exact Nat.ne_of_lt (blk_lt (g := gb122) (o := .cells #[.int .u32 0, .int .u8 0, .int .u8 0] 24 (0, 0)) (by (with_reducible repeat (first | refine blk_drewN ?_ _ | refine blk_drew ?_ | refine blk_alloc ?_ _)); exact BK122.out)) : gb122 ≠ gb123))
                        have n9_ := Aside0.mk ((by rw [hg]; exact Nat.ne_of_gt (blk_lt (g := gb122) (o := .cells #[.int .u32 0, .int .u8 0, .int .u8 0] 24 (0, 0)) (by (with_reducible repeat (first | refine blk_drewN ?_ _ | refine blk_drew ?_ | refine blk_alloc ?_ _)); exact BK122.out)) : gb123 ≠ gb122))
                        clear BK115
                        clear BK122
                        clear HB
                        have BK115 := n0_
                        have BK122 := n1_
                        have HB := n2_
                        have BK123 := n3_
                        have GW123 := n4_
                        have GE123 := n5_
                        have NB115_123 := n6_
                        have NB123_115 := n7_
                        have NB122_123 := n8_
                        have NB123_122 := n9_
                        clear n0_ n1_ n2_ n3_ n4_ n5_ n6_ n7_ n8_ n9_
                        clear hb hbox hg
                        refine hK.out _ _ ⟨(blk_cell BK115.out 0).trans rfl, (blk_cell BK115.out 1).trans rfl, (blk_cell BK115.out 2).trans rfl⟩ (fun hHeld => ?_)
                        clear hK K
                        refine norm_ (a' := ?_) ?_ ?_
                        rotate_left
                        · show Act.put _ (some 8) _ = _
                          simp only [Act.put, List.setIfInBounds_toArray, List.set_cons_zero, List.set_cons_succ, i64_w, i32_w]
                          rfl
                        exact norm_ (by first | (simp only [putAll, Act.put, List.setIfInBounds_toArray, List.set_cons_zero, List.set_cons_succ]; done) | (simp only [putAll, Act.put, List.setIfInBounds_toArray, List.set_cons_zero, List.set_cons_succ]; rfl)) (hJ2_5_6_7 (gb122, gb123) _ ⟨hHeld, (by (with_reducible repeat (first | refine blk_drewN ?_ _ | refine blk_drew ?_ | refine blk_alloc ?_ _)); exact BK115.out), (by (with_reducible repeat (first | refine blk_drewN ?_ _ | refine blk_drew ?_ | refine blk_alloc ?_ _)); exact BK122.out), (by (with_reducible repeat (first | refine blk_drewN ?_ _ | refine blk_drew ?_ | refine blk_alloc ?_ _)); exact BK123.out), GW122.out, GE122.out, NB115_122.out, NB122_115.out, NB123_122.out, NB122_123.out, GW123.out, GE123.out, NB115_123.out, NB123_115.out, (by repeat (first | (with_reducible first | exact HB.out | apply below_alloc | apply pw_below_drewN | apply below_drew1 | refine below_set ?_ GE115.out | refine below_set ?_ GE122.out | refine below_set ?_ GE123.out) | exact HB.out))⟩)
                    rintro ⟨gb122, gb123⟩ w190 ⟨hS_, h0_, h1_, h2_, h3_, h4_, h5_, h6_, h7_, h8_, h9_, h10_, h11_, h12_, h13_⟩
                    have n0_ : Aside0 (w190.heap[gb115]? = some (.cells #[.int .u32 a0_0, .int .u8 a0_1, .int .u8 a0_2] 24 (0, 0))) := ⟨h0_⟩
                    have n1_ : Aside0 (w190.heap[gb122]? = some (.cells #[.int .u32 0, .int .u8 0, .int .u8 0] 24 (0, 0))) := ⟨h1_⟩
                    have n2_ : Aside0 (w190.heap[gb123]? = some (.cells #[.int .u32 0, .int .u8 0, .int .u8 0] 24 (0, 0))) := ⟨h2_⟩
                    have n3_ : Aside0 (w.heap.size ≤ gb122) := ⟨h3_⟩
                    have n4_ : Aside0 (w.heap.size ≤ gb122) := ⟨h4_⟩
                    have n5_ : Aside0 (gb115 ≠ gb122) := ⟨h5_⟩
                    have n6_ : Aside0 (gb122 ≠ gb115) := ⟨h6_⟩
                    have n7_ : Aside0 (gb123 ≠ gb122) := ⟨h7_⟩
                    have n8_ : Aside0 (gb122 ≠ gb123) := ⟨h8_⟩
                    have n9_ : Aside0 (w.heap.size ≤ gb123) := ⟨h9_⟩
                    have n10_ : Aside0 (w.heap.size ≤ gb123) := ⟨h10_⟩
                    have n11_ : Aside0 (gb115 ≠ gb123) := ⟨h11_⟩
                    have n12_ : Aside0 (gb123 ≠ gb115) := ⟨h12_⟩
                    have n13_ : Aside0 (Below w.heap.size w w190) := ⟨h13_⟩
                    clear BK115
                    clear HB
                    clear h0_ h1_ h2_ h3_ h4_ h5_ h6_ h7_ h8_ h9_ h10_ h11_ h12_ h13_
                    have BK115 := n0_
                    have BK122 := n1_
                    have BK123 := n2_
                    have GW122 := n3_
                    have GE122 := n4_
                    have NB115_122 := n5_
                    have NB122_115 := n6_
                    have NB123_122 := n7_
                    have NB122_123 := n8_
                    have GW123 := n9_
                    have GE123 := n10_
                    have NB115_123 := n11_
                    have NB123_115 := n12_
                    have HB := n13_
                    clear n0_ n1_ n2_ n3_ n4_ n5_ n6_ n7_ n8_ n9_ n10_ n11_ n12_ n13_
                    have hHeld : w190.cell? ⟨gb115, 0, none⟩ = some (.int .u32 a0_0) ∧ w190.cell? ⟨gb115, 1, none⟩ = some (.int .u8 a0_1) ∧ w190.cell? ⟨gb115, 2, none⟩ = some (.int .u8 a0_2) := hS_
                    refine norm_ (a' := ?_) ?_ ?_
                    rotate_left
                    · simp only [putAll, Act.put, List.setIfInBounds_toArray, List.set_cons_zero, List.set_cons_succ]
                      rfl
                    refine one_ (i := 8) (N := none) #[true, true, true, true, true, true, true, true, true, false] rfl rfl (one_of HT_.out (by kernel_rfl)) (by decide) (fun K hK => ?_)
                    have hs191 : w190.cell? ⟨gb122, 0, none⟩ = some (.int .u32 0) := (blk_cell BK122.out 0).trans rfl
                    have hfs191 := blk_frozen BK122.out 0
                    have hns191_0 := NB115_122.out
                    have hns191_2 := NB123_122.out
                    have hms191_0 := NB122_115.out
                    have hms191_2 := NB122_123.out
                    have hs192 : w190.cell? ⟨gb122, 1, none⟩ = some (.int .u8 0) := (blk_cell BK122.out 1).trans rfl
                    have hfs192 := blk_frozen BK122.out 1
                    have hns192_0 := NB115_122.out
                    have hns192_2 := NB123_122.out
                    have hms192_0 := NB122_115.out
                    have hms192_2 := NB122_123.out
                    have hs193 : w190.cell? ⟨gb122, 2, none⟩ = some (.int .u8 0) := (blk_cell BK122.out 2).trans rfl
                    have hfs193 := blk_frozen BK122.out 2
                    have hns193_0 := NB115_122.out
                    have hns193_2 := NB123_122.out
                    have hms193_0 := NB122_115.out
                    have hms193_2 := NB122_123.out
                    refine skip_ (w1 := ?_) (by rfl) rfl ?_ ?_
                    rotate_left
                    · go_simp
                      rfl
                    refine hK.out _ _ ⟨((cell_far (p := ⟨gb122, _, none⟩) NB115_122.out _).trans (((cell_far (p := ⟨gb122, _, none⟩) NB115_122.out _).trans (((cell_far (p := ⟨gb122, _, none⟩) NB115_122.out _).trans (hHeld.1)))))), ((cell_far (p := ⟨gb122, _, none⟩) NB115_122.out _).trans (((cell_far (p := ⟨gb122, _, none⟩) NB115_122.out _).trans (((cell_far (p := ⟨gb122, _, none⟩) NB115_122.out _).trans (hHeld.2.1)))))), ((cell_far (p := ⟨gb122, _, none⟩) NB115_122.out _).trans (((cell_far (p := ⟨gb122, _, none⟩) NB115_122.out _).trans (((cell_far (p := ⟨gb122, _, none⟩) NB115_122.out _).trans (hHeld.2.2))))))⟩ (fun hHeld => ?_)
                    clear hK K
                    refine one_ (i := 9) (N := none) #[true, true, true, true, true, true, true, true, true, true] rfl rfl (one_of HT_.out (by kernel_rfl)) (by decide) (fun K hK => ?_)
                    have hs194 : w190.cell? ⟨gb123, 0, none⟩ = some (.int .u32 0) := (blk_cell BK123.out 0).trans rfl
                    have hfs194 := blk_frozen BK123.out 0
                    have hns194_0 := NB115_123.out
                    have hns194_1 := NB122_123.out
                    have hms194_0 := NB123_115.out
                    have hms194_1 := NB123_122.out
                    have hs195 : w190.cell? ⟨gb123, 1, none⟩ = some (.int .u8 0) := (blk_cell BK123.out 1).trans rfl
                    have hfs195 := blk_frozen BK123.out 1
                    have hns195_0 := NB115_123.out
                    have hns195_1 := NB122_123.out
                    have hms195_0 := NB123_115.out
                    have hms195_1 := NB123_122.out
                    have hs196 : w190.cell? ⟨gb123, 2, none⟩ = some (.int .u8 0) := (blk_cell BK123.out 2).trans rfl
                    have hfs196 := blk_frozen BK123.out 2
                    have hns196_0 := NB115_123.out
                    have hns196_1 := NB122_123.out
                    have hms196_0 := NB123_115.out
                    have hms196_1 := NB123_122.out
                    refine skip_ (w1 := ?_) (by rfl) rfl ?_ ?_
                    rotate_left
                    · go_simp
                      rfl
                    refine hK.out _ _ ⟨((cell_far (p := ⟨gb123, _, none⟩) NB115_123.out _).trans (((cell_far (p := ⟨gb123, _, none⟩) NB115_123.out _).trans (((cell_far (p := ⟨gb123, _, none⟩) NB115_123.out _).trans (hHeld.1)))))), ((cell_far (p := ⟨gb123, _, none⟩) NB115_123.out _).trans (((cell_far (p := ⟨gb123, _, none⟩) NB115_123.out _).trans (((cell_far (p := ⟨gb123, _, none⟩) NB115_123.out _).trans (hHeld.2.1)))))), ((cell_far (p := ⟨gb123, _, none⟩) NB115_123.out _).trans (((cell_far (p := ⟨gb123, _, none⟩) NB115_123.out _).trans (((cell_far (p := ⟨gb123, _, none⟩) NB115_123.out _).trans (hHeld.2.2))))))⟩ (fun hHeld => ?_)
                    clear hK K
                    refine done_ (done_of HT_.out (by kernel_rfl)) ?_
                    try go_wp2
                    have n0_ : Aside0 (((((((w190.setCell ⟨gb122, 0, none⟩ (.int .u32 t116)).setCell ⟨gb122, 1, none⟩ (.int .u8 t117)).setCell ⟨gb122, 2, none⟩ (.int .u8 t118)).setCell ⟨gb123, 0, none⟩ (.int .u32 t119)).setCell ⟨gb123, 1, none⟩ (.int .u8 t120)).setCell ⟨gb123, 2, none⟩ (.int .u8 t121)).heap[gb115]? = some (.cells #[.int .u32 a0_0, .int .u8 a0_1, .int .u8 a0_2] 24 (0, 0))) := ⟨by (with_reducible repeat (first | refine blk_drewN ?_ _ | refine blk_drew ?_ | refine blk_alloc ?_ _)); refine blk_far ?_ NB115_123.out _; (with_reducible repeat (first | refine blk_drewN ?_ _ | refine blk_drew ?_ | refine blk_alloc ?_ _)); refine blk_far ?_ NB115_123.out _; (with_reducible repeat (first | refine blk_drewN ?_ _ | refine blk_drew ?_ | refine blk_alloc ?_ _)); refine blk_far ?_ NB115_123.out _; (with_reducible repeat (first | refine blk_drewN ?_ _ | refine blk_drew ?_ | refine blk_alloc ?_ _)); refine blk_far ?_ NB115_122.out _; (with_reducible repeat (first | refine blk_drewN ?_ _ | refine blk_drew ?_ | refine blk_alloc ?_ _)); refine blk_far ?_ NB115_122.out _; (with_reducible repeat (first | refine blk_drewN ?_ _ | refine blk_drew ?_ | refine blk_alloc ?_ _)); refine blk_far ?_ NB115_122.out _; (with_reducible repeat (first | refine blk_drewN ?_ _ | refine blk_drew ?_ | refine blk_alloc ?_ _)); exact BK115.out⟩
                    have n1_ : Aside0 (((((((w190.setCell ⟨gb122, 0, none⟩ (.int .u32 t116)).setCell ⟨gb122, 1, none⟩ (.int .u8 t117)).setCell ⟨gb122, 2, none⟩ (.int .u8 t118)).setCell ⟨gb123, 0, none⟩ (.int .u32 t119)).setCell ⟨gb123, 1, none⟩ (.int .u8 t120)).setCell ⟨gb123, 2, none⟩ (.int .u8 t121)).heap[gb122]? = some (.cells #[.int .u32 t116, .int .u8 t117, .int .u8 t118] 24 (0, 0))) := ⟨by (with_reducible repeat (first | refine blk_drewN ?_ _ | refine blk_drew ?_ | refine blk_alloc ?_ _)); refine blk_far ?_ NB122_123.out _; (with_reducible repeat (first | refine blk_drewN ?_ _ | refine blk_drew ?_ | refine blk_alloc ?_ _)); refine blk_far ?_ NB122_123.out _; (with_reducible repeat (first | refine blk_drewN ?_ _ | refine blk_drew ?_ | refine blk_alloc ?_ _)); refine blk_far ?_ NB122_123.out _; (with_reducible repeat (first | refine blk_drewN ?_ _ | refine blk_drew ?_ | refine blk_alloc ?_ _)); refine blk_put (cs := #[.int .u32 t116, .int .u8 t117, .int .u8 0]) ?_ 2 _ rfl; (with_reducible repeat (first | refine blk_drewN ?_ _ | refine blk_drew ?_ | refine blk_alloc ?_ _)); refine blk_put (cs := #[.int .u32 t116, .int .u8 0, .int .u8 0]) ?_ 1 _ rfl; (with_reducible repeat (first | refine blk_drewN ?_ _ | refine blk_drew ?_ | refine blk_alloc ?_ _)); refine blk_put (cs := #[.int .u32 0, .int .u8 0, .int .u8 0]) ?_ 0 _ rfl; (with_reducible repeat (first | refine blk_drewN ?_ _ | refine blk_drew ?_ | refine blk_alloc ?_ _)); exact BK122.out⟩
                    have n2_ : Aside0 (((((((w190.setCell ⟨gb122, 0, none⟩ (.int .u32 t116)).setCell ⟨gb122, 1, none⟩ (.int .u8 t117)).setCell ⟨gb122, 2, none⟩ (.int .u8 t118)).setCell ⟨gb123, 0, none⟩ (.int .u32 t119)).setCell ⟨gb123, 1, none⟩ (.int .u8 t120)).setCell ⟨gb123, 2, none⟩ (.int .u8 t121)).heap[gb123]? = some (.cells #[.int .u32 t119, .int .u8 t120, .int .u8 t121] 24 (0, 0))) := ⟨by (with_reducible repeat (first | refine blk_drewN ?_ _ | refine blk_drew ?_ | refine blk_alloc ?_ _)); refine blk_put (cs := #[.int .u32 t119, .int .u8 t120, .int .u8 0]) ?_ 2 _ rfl; (with_reducible repeat (first | refine blk_drewN ?_ _ | refine blk_drew ?_ | refine blk_alloc ?_ _)); refine blk_put (cs := #[.int .u32 t119, .int .u8 0, .int .u8 0]) ?_ 1 _ rfl; (with_reducible repeat (first | refine blk_drewN ?_ _ | refine blk_drew ?_ | refine blk_alloc ?_ _)); refine blk_put (cs := #[.int .u32 0, .int .u8 0, .int .u8 0]) ?_ 0 _ rfl; (with_reducible repeat (first | refine blk_drewN ?_ _ | refine blk_drew ?_ | refine blk_alloc ?_ _)); refine blk_far ?_ NB123_122.out _; (with_reducible repeat (first | refine blk_drewN ?_ _ | refine blk_drew ?_ | refine blk_alloc ?_ _)); refine blk_far ?_ NB123_122.out _; (with_reducible repeat (first | refine blk_drewN ?_ _ | refine blk_drew ?_ | refine blk_alloc ?_ _)); refine blk_far ?_ NB123_122.out _; (with_reducible repeat (first | refine blk_drewN ?_ _ | refine blk_drew ?_ | refine blk_alloc ?_ _)); exact BK123.out⟩
                    have n3_ : Aside0 (Below w.heap.size w ((((((w190.setCell ⟨gb122, 0, none⟩ (.int .u32 t116)).setCell ⟨gb122, 1, none⟩ (.int .u8 t117)).setCell ⟨gb122, 2, none⟩ (.int .u8 t118)).setCell ⟨gb123, 0, none⟩ (.int .u32 t119)).setCell ⟨gb123, 1, none⟩ (.int .u8 t120)).setCell ⟨gb123, 2, none⟩ (.int .u8 t121))) := ⟨by repeat (first | (with_reducible first | exact HB.out | apply below_alloc | apply pw_below_drewN | apply below_drew1 | refine below_set ?_ GE115.out | refine below_set ?_ GE122.out | refine below_set ?_ GE123.out) | exact HB.out)⟩
                    (try clear BK115)
                    (try clear BK122)
                    (try clear BK123)
                    (try clear HB)
                    generalize ((((((w190.setCell ⟨gb122, 0, none⟩ (.int .u32 t116)).setCell ⟨gb122, 1, none⟩ (.int .u8 t117)).setCell ⟨gb122, 2, none⟩ (.int .u8 t118)).setCell ⟨gb123, 0, none⟩ (.int .u32 t119)).setCell ⟨gb123, 1, none⟩ (.int .u8 t120)).setCell ⟨gb123, 2, none⟩ (.int .u8 t121)) = w197 at n0_ n1_ n2_ n3_ ⊢
                    have BK115 := n0_
                    have BK122 := n1_
                    have BK123 := n2_
                    have HB := n3_
                    clear n0_ n1_ n2_ n3_
                    have n0_ := Aside0.mk (blk_drew BK115.out)
                    have n1_ := Aside0.mk (blk_drew BK122.out)
                    have n2_ := Aside0.mk (blk_drew BK123.out)
                    have n3_ := Aside0.mk (below_drew1 HB.out)
                    clear BK115
                    clear BK122
                    clear BK123
                    clear HB
                    have BK115 := n0_
                    have BK122 := n1_
                    have BK123 := n2_
                    have HB := n3_
                    clear n0_ n1_ n2_ n3_
                    refine start_ (n := 63) (S := fun w' => w'.cell? ⟨gb122, 0, none⟩ = some (.int .u32 t116) ∧ w'.cell? ⟨gb122, 1, none⟩ = some (.int .u8 t117) ∧ w'.cell? ⟨gb122, 2, none⟩ = some (.int .u8 t118) ∧ w'.cell? ⟨gb123, 0, none⟩ = some (.int .u32 t119) ∧ w'.cell? ⟨gb123, 1, none⟩ = some (.int .u8 t120) ∧ w'.cell? ⟨gb123, 2, none⟩ = some (.int .u8 t121) ∧ w'.cell? ⟨gb115, 0, none⟩ = some (.int .u32 a0_0) ∧ w'.cell? ⟨gb115, 1, none⟩ = some (.int .u8 a0_1) ∧ w'.cell? ⟨gb115, 2, none⟩ = some (.int .u8 a0_2)) (ds := []) #[false, false, false, false, false, false, false, false, false, false, false, false, false, false, false, false, false, false, false, false, false, false, false, false, false, false, false, false, false, false, false, false, false, false, false, false, false, false, false, false, false, false, false, false, false, false, false, false, false, false, false, false, false, false, false, false, false, false, false, false, false, false, false] (by kernel_rfl) rfl rfl ⟨(blk_cell BK122.out 0).trans rfl, (blk_cell BK122.out 1).trans rfl, (blk_cell BK122.out 2).trans rfl, (blk_cell BK123.out 0).trans rfl, (blk_cell BK123.out 1).trans rfl, (blk_cell BK123.out 2).trans rfl, (blk_cell BK115.out 0).trans rfl, (blk_cell BK115.out 1).trans rfl, (blk_cell BK115.out 2).trans rfl⟩ (fun hHeld => ?_); refine with_tabW whispererlaw06_AttrsWith.tab3 whispererlaw06_AttrsWith.bits3 (fun HT_ HW_ => ?_)
                    generalize w197.drew = w198 at BK115 BK122 BK123 HB hHeld ⊢
                    refine one_ (i := 0) (N := some 19) #[true, false, false, false, false, false, false, false, false, false, false, false, false, false, false, false, false, false, false, false, false, false, false, false, false, false, false, false, false, false, false, false, false, false, false, false, false, false, false, false, false, false, false, false, false, false, false, false, false, false, false, false, false, false, false, false, false, false, false, false, false, false, false] rfl rfl (one_of HT_.out (by kernel_rfl)) (by decide) (fun K hK => ?_)
                    refine goes_ Tryd.func10 (by kernel_rfl) rfl #[] (by rfl) rfl rfl (by (try simp only [List.map_toArray, List.map_cons, List.map_nil]); first | done | rfl | (simp only [List.length_drop, List.length_take]; rfl)) ?_
                    with_reducible refine (whispererlaw06_alive.calls  true _ ?side1 A6.out).mono ?_
                    (case side1 => exact (Go.Proofs.YtgdbkgjnonodjaaDoor.Hand.TabA.below HTab_ (by repeat (first | (with_reducible first | exact HB.out | apply below_alloc | apply pw_below_drewN | apply below_drew1 | refine below_set ?_ GE115.out | refine below_set ?_ GE122.out | refine below_set ?_ GE123.out) | exact HB.out))))
                    rintro e w199 ⟨rfl, hb⟩
                    refine ⟨_, rfl, ?_⟩
                    have n0_ := Aside0.mk (blk_below (g := gb115) (o := .cells #[.int .u32 a0_0, .int .u8 a0_1, .int .u8 a0_2] 24 (0, 0)) (by (with_reducible repeat (first | refine blk_drewN ?_ _ | refine blk_drew ?_ | refine blk_alloc ?_ _)); exact BK115.out) hb)
                    have n1_ := Aside0.mk (blk_below (g := gb122) (o := .cells #[.int .u32 t116, .int .u8 t117, .int .u8 t118] 24 (0, 0)) (by (with_reducible repeat (first | refine blk_drewN ?_ _ | refine blk_drew ?_ | refine blk_alloc ?_ _)); exact BK122.out) hb)
                    have n2_ := Aside0.mk (blk_below (g := gb123) (o := .cells #[.int .u32 t119, .int .u8 t120, .int .u8 t121] 24 (0, 0)) (by (with_reducible repeat (first | refine blk_drewN ?_ _ | refine blk_drew ?_ | refine blk_alloc ?_ _)); exact BK123.out) hb)
                    have n3_ := Aside0.mk (below_step (by repeat (first | (with_reducible first | exact HB.out | apply below_alloc | apply pw_below_drewN | apply below_drew1 | refine below_set ?_ GE115.out | refine below_set ?_ GE122.out | refine below_set ?_ GE123.out) | exact HB.out)) hb)
                    clear BK115
                    clear BK122
                    clear BK123
                    clear HB
                    have BK115 := n0_
                    have BK122 := n1_
                    have BK123 := n2_
                    have HB := n3_
                    clear n0_ n1_ n2_ n3_
                    (try clear hb)
                    (try clear hb2)
                    (try clear hk)
                    (try clear hi)
                    refine hK.out _ _ ⟨(blk_cell BK122.out 0).trans rfl, (blk_cell BK122.out 1).trans rfl, (blk_cell BK122.out 2).trans rfl, (blk_cell BK123.out 0).trans rfl, (blk_cell BK123.out 1).trans rfl, (blk_cell BK123.out 2).trans rfl, (blk_cell BK115.out 0).trans rfl, (blk_cell BK115.out 1).trans rfl, (blk_cell BK115.out 2).trans rfl⟩ (fun hHeld => ?_)
                    clear hK K
                    refine norm_ (a' := ?_) ?_ ?_
                    rotate_left
                    · show Act.put _ (some 19) _ = _
                      simp only [Act.put, List.setIfInBounds_toArray, List.set_cons_zero, List.set_cons_succ, i64_w, i32_w]
                      rfl
                    refine pure_ (i := 1) (N := some 20) (v := ?_) (a' := ?_) #[true, true, false, false, false, false, false, false, false, false, false, false, false, false, false, false, false, false, false, false, false, false, false, false, false, false, false, false, false, false, false, false, false, false, false, false, false, false, false, false, false, false, false, false, false, false, false, false, false, false, false, false, false, false, false, false, false, false, false, false, false, false, false] rfl rfl (any_of HT_.out (by kernel_rfl)) (fun _ _ _ h => h) (Or.inl ⟨by rfl, ?_⟩) ?_ ?_
                    rotate_left
                    · intro w'
                      go_simp
                      with_reducible rfl
                    rotate_left
                    · simp only [Act.put, List.setIfInBounds_toArray, List.set_cons_zero, List.set_cons_succ, i64_w, i32_w]
                      rfl
                    refine pure_ (i := 3) (N := some 22) (v := ?_) (a' := ?_) #[true, true, false, true, false, false, false, false, false, false, false, false, false, false, false, false, false, false, false, false, false, false, false, false, false, false, false, false, false, false, false, false, false, false, false, false, false, false, false, false, false, false, false, false, false, false, false, false, false, false, false, false, false, false, false, false, false, false, false, false, false, false, false] rfl rfl (any_of HT_.out (by kernel_rfl)) (fun _ _ _ h => h) (Or.inl ⟨by rfl, ?_⟩) ?_ ?_
                    rotate_left
                    · intro w'
                      go_simp
                      with_reducible rfl
                    rotate_left
                    · simp only [Act.put, List.setIfInBounds_toArray, List.set_cons_zero, List.set_cons_succ, i64_w, i32_w]
                      rfl
                    refine take_ (i := 2) (N := some 21) (v := ?_) (a' := ?_) #[true, true, true, true, false, false, false, false, false, false, false, false, false, false, false, false, false, false, false, false, false, false, false, false, false, false, false, false, false, false, false, false, false, false, false, false, false, false, false, false, false, false, false, false, false, false, false, false, false, false, false, false, false, false, false, false, false, false, false, false, false, false, false] rfl rfl (take_ofW HT_.out HW_.out (by kernel_rfl)) (fun _ _ _ h => h) (Or.inl ⟨by rfl, ?_⟩) hHeld ?_ ?_
                    rotate_left
                    · rintro w' ⟨s0, s1, s2, s3, s4, s5, s6, s7, s8⟩
                      go_simp
                      with_reducible rfl
                    rotate_left
                    · simp only [Act.put, List.setIfInBounds_toArray, List.set_cons_zero, List.set_cons_succ, i64_w, i32_w]
                      rfl
                    refine one_ (i := 4) (N := some 23) #[true, true, true, true, true, false, false, false, false, false, false, false, false, false, false, false, false, false, false, false, false, false, false, false, false, false, false, false, false, false, false, false, false, false, false, false, false, false, false, false, false, false, false, false, false, false, false, false, false, false, false, false, false, false, false, false, false, false, false, false, false, false, false] rfl rfl (one_of HT_.out (by kernel_rfl)) (by decide) (fun K hK => ?_)
                    refine goes_ Tryd.func17 (by kernel_rfl) rfl #[.agg #[.int .u32 t116, .int .u8 t117, .int .u8 t118], .int .u32 a1] (by rfl) rfl rfl (by (try simp only [List.map_toArray, List.map_cons, List.map_nil]); first | done | rfl | (simp only [List.length_drop, List.length_take]; rfl)) ?_
                    with_reducible refine (attrs_Has.calls t116 t117 t118 a1 true _ A8.out).mono ?_
                    rintro e w200 ⟨rfl, hb⟩
                    refine ⟨_, rfl, ?_⟩
                    have n0_ := Aside0.mk (blk_below (g := gb115) (o := .cells #[.int .u32 a0_0, .int .u8 a0_1, .int .u8 a0_2] 24 (0, 0)) (by (with_reducible repeat (first | refine blk_drewN ?_ _ | refine blk_drew ?_ | refine blk_alloc ?_ _)); exact BK115.out) hb)
                    have n1_ := Aside0.mk (blk_below (g := gb122) (o := .cells #[.int .u32 t116, .int .u8 t117, .int .u8 t118] 24 (0, 0)) (by (with_reducible repeat (first | refine blk_drewN ?_ _ | refine blk_drew ?_ | refine blk_alloc ?_ _)); exact BK122.out) hb)
                    have n2_ := Aside0.mk (blk_below (g := gb123) (o := .cells #[.int .u32 t119, .int .u8 t120, .int .u8 t121] 24 (0, 0)) (by (with_reducible repeat (first | refine blk_drewN ?_ _ | refine blk_drew ?_ | refine blk_alloc ?_ _)); exact BK123.out) hb)
                    have n3_ := Aside0.mk (below_step (by repeat (first | (with_reducible first | exact HB.out | apply below_alloc | apply pw_below_drewN | apply below_drew1 | refine below_set ?_ GE115.out | refine below_set ?_ GE122.out | refine below_set ?_ GE123.out) | exact HB.out)) hb)
                    clear BK115
                    clear BK122
                    clear BK123
                    clear HB
                    have BK115 := n0_
                    have BK122 := n1_
                    have BK123 := n2_
                    have HB := n3_
                    clear n0_ n1_ n2_ n3_
                    (try clear hb)
                    (try clear hb2)
                    (try clear hk)
                    (try clear hi)
                    refine hK.out _ _ ⟨(blk_cell BK122.out 0).trans rfl, (blk_cell BK122.out 1).trans rfl, (blk_cell BK122.out 2).trans rfl, (blk_cell BK123.out 0).trans rfl, (blk_cell BK123.out 1).trans rfl, (blk_cell BK123.out 2).trans rfl, (blk_cell BK115.out 0).trans rfl, (blk_cell BK115.out 1).trans rfl, (blk_cell BK115.out 2).trans rfl⟩ (fun hHeld => ?_)
                    clear hK K
                    refine norm_ (a' := ?_) ?_ ?_
                    rotate_left
                    · show Act.put _ (some 23) _ = _
                      simp only [Act.put, List.setIfInBounds_toArray, List.set_cons_zero, List.set_cons_succ, i64_w, i32_w]
                      rfl
                    refine pure_ (i := 5) (N := some 24) (v := ?_) (a' := ?_) #[true, true, true, true, true, true, false, false, false, false, false, false, false, false, false, false, false, false, false, false, false, false, false, false, false, false, false, false, false, false, false, false, false, false, false, false, false, false, false, false, false, false, false, false, false, false, false, false, false, false, false, false, false, false, false, false, false, false, false, false, false, false, false] rfl rfl (any_of HT_.out (by kernel_rfl)) (fun _ _ _ h => h) (Or.inl ⟨by rfl, ?_⟩) ?_ ?_
                    rotate_left
                    · intro w'
                      go_simp
                      with_reducible rfl
                    rotate_left
                    · simp only [Act.put, List.setIfInBounds_toArray, List.set_cons_zero, List.set_cons_succ, i64_w, i32_w]
                      rfl
                    refine pure_ (i := 6) (N := some 25) (v := ?_) (a' := ?_) #[true, true, true, true, true, true, true, false, false, false, false, false, false, false, false, false, false, false, false, false, false, false, false, false, false, false, false, false, false, false, false, false, false, false, false, false, false, false, false, false, false, false, false, false, false, false, false, false, false, false, false, false, false, false, false, false, false, false, false, false, false, false, false] rfl rfl (any_of HT_.out (by kernel_rfl)) (fun _ _ _ h => h) (Or.inl ⟨by rfl, ?_⟩) ?_ ?_
                    rotate_left
                    · intro w'
                      go_simp
                      with_reducible rfl
                    rotate_left
                    · simp only [Act.put, List.setIfInBounds_toArray, List.set_cons_zero, List.set_cons_succ, i64_w, i32_w]
                      rfl
                    refine pure_ (i := 7) (N := some 26) (v := ?_) (a' := ?_) #[true, true, true, true, true, true, true, true, false, false, false, false, false, false, false, false, false, false, false, false, false, false, false, false, false, false, false, false, false, false, false, false, false, false, false, false, false, false, false, false, false, false, false, false, false, false, false, false, false, false, false, false, false, false, false, false, false, false, false, false, false, false, false] rfl rfl (any_of HT_.out (by kernel_rfl)) (fun _ _ _ h => h) (Or.inl ⟨by rfl, ?_⟩) ?_ ?_
                    rotate_left
                    · intro w'
                      go_simp
                      with_reducible rfl
                    rotate_left
                    · simp only [Act.put, List.setIfInBounds_toArray, List.set_cons_zero, List.set_cons_succ, i64_w, i32_w]
                      rfl
                    refine pure_ (i := 8) (N := some 27) (v := ?_) (a' := ?_) #[true, true, true, true, true, true, true, true, true, false, false, false, false, false, false, false, false, false, false, false, false, false, false, false, false, false, false, false, false, false, false, false, false, false, false, false, false, false, false, false, false, false, false, false, false, false, false, false, false, false, false, false, false, false, false, false, false, false, false, false, false, false, false] rfl rfl (any_of HT_.out (by kernel_rfl)) (fun _ _ _ h => h) (Or.inl ⟨by rfl, ?_⟩) ?_ ?_
                    rotate_left
                    · intro w'
                      go_simp
                      with_reducible rfl
                    rotate_left
                    · simp only [Act.put, List.setIfInBounds_toArray, List.set_cons_zero, List.set_cons_succ, i64_w, i32_w]
                      rfl
                    refine pure_ (i := 9) (N := some 28) (v := ?_) (a' := ?_) #[true, true, true, true, true, true, true, true, true, true, false, false, false, false, false, false, false, false, false, false, false, false, false, false, false, false, false, false, false, false, false, false, false, false, false, false, false, false, false, false, false, false, false, false, false, false, false, false, false, false, false, false, false, false, false, false, false, false, false, false, false, false, false] rfl rfl (any_of HT_.out (by kernel_rfl)) (fun _ _ _ h => h) (Or.inl ⟨by rfl, ?_⟩) ?_ ?_
                    rotate_left
                    · intro w'
                      go_simp
                      with_reducible rfl
                    rotate_left
                    · simp only [Act.put, List.setIfInBounds_toArray, List.set_cons_zero, List.set_cons_succ, i64_w, i32_w]
                      rfl
                    refine pure_ (i := 11) (N := some 30) (v := ?_) (a' := ?_) #[true, true, true, true, true, true, true, true, true, true, false, true, false, false, false, false, false, false, false, false, false, false, false, false, false, false, false, false, false, false, false, false, false, false, false, false, false, false, false, false, false, false, false, false, false, false, false, false, false, false, false, false, false, false, false, false, false, false, false, false, false, false, false] rfl rfl (any_of HT_.out (by kernel_rfl)) (fun _ _ _ h => h) (Or.inl ⟨by rfl, ?_⟩) ?_ ?_
                    rotate_left
                    · intro w'
                      go_simp
                      with_reducible rfl
                    rotate_left
                    · simp only [Act.put, List.setIfInBounds_toArray, List.set_cons_zero, List.set_cons_succ, i64_w, i32_w]
                      rfl
                    refine take_ (i := 10) (N := some 29) (v := ?_) (a' := ?_) #[true, true, true, true, true, true, true, true, true, true, true, true, false, false, false, false, false, false, false, false, false, false, false, false, false, false, false, false, false, false, false, false, false, false, false, false, false, false, false, false, false, false, false, false, false, false, false, false, false, false, false, false, false, false, false, false, false, false, false, false, false, false, false] rfl rfl (take_ofW HT_.out HW_.out (by kernel_rfl)) (fun _ _ _ h => h) (Or.inl ⟨by rfl, ?_⟩) hHeld ?_ ?_
                    rotate_left
                    · rintro w' ⟨s0, s1, s2, s3, s4, s5, s6, s7, s8⟩
                      go_simp
                      with_reducible rfl
                    rotate_left
                    · simp only [Act.put, List.setIfInBounds_toArray, List.set_cons_zero, List.set_cons_succ, i64_w, i32_w]
                      rfl
                    refine one_ (i := 12) (N := some 31) #[true, true, true, true, true, true, true, true, true, true, true, true, true, false, false, false, false, false, false, false, false, false, false, false, false, false, false, false, false, false, false, false, false, false, false, false, false, false, false, false, false, false, false, false, false, false, false, false, false, false, false, false, false, false, false, false, false, false, false, false, false, false, false] rfl rfl (one_of HT_.out (by kernel_rfl)) (by decide) (fun K hK => ?_)
                    refine goes_ Tryd.func17 (by kernel_rfl) rfl #[.agg #[.int .u32 t119, .int .u8 t120, .int .u8 t121], .int .u32 a1] (by rfl) rfl rfl (by (try simp only [List.map_toArray, List.map_cons, List.map_nil]); first | done | rfl | (simp only [List.length_drop, List.length_take]; rfl)) ?_
                    with_reducible refine (attrs_Has.calls t119 t120 t121 a1 false _ A153.out).mono ?_
                    rintro e w201 ⟨rfl, hb⟩
                    refine ⟨_, rfl, ?_⟩
                    have n0_ := Aside0.mk (blk_below (g := gb115) (o := .cells #[.int .u32 a0_0, .int .u8 a0_1, .int .u8 a0_2] 24 (0, 0)) (by (with_reducible repeat (first | refine blk_drewN ?_ _ | refine blk_drew ?_ | refine blk_alloc ?_ _)); exact BK115.out) hb)
                    have n1_ := Aside0.mk (blk_below (g := gb122) (o := .cells #[.int .u32 t116, .int .u8 t117, .int .u8 t118] 24 (0, 0)) (by (with_reducible repeat (first | refine blk_drewN ?_ _ | refine blk_drew ?_ | refine blk_alloc ?_ _)); exact BK122.out) hb)
                    have n2_ := Aside0.mk (blk_below (g := gb123) (o := .cells #[.int .u32 t119, .int .u8 t120, .int .u8 t121] 24 (0, 0)) (by (with_reducible repeat (first | refine blk_drewN ?_ _ | refine blk_drew ?_ | refine blk_alloc ?_ _)); exact BK123.out) hb)
                    have n3_ := Aside0.mk (below_step (by repeat (first | (with_reducible first | exact HB.out | apply below_alloc | apply pw_below_drewN | apply below_drew1 | refine below_set ?_ GE115.out | refine below_set ?_ GE122.out | refine below_set ?_ GE123.out) | exact HB.out)) hb)
                    clear BK115
                    clear BK122
                    clear BK123
                    clear HB
                    have BK115 := n0_
                    have BK122 := n1_
                    have BK123 := n2_
                    have HB := n3_
                    clear n0_ n1_ n2_ n3_
                    (try clear hb)
                    (try clear hb2)
                    (try clear hk)
                    (try clear hi)
                    refine hK.out _ _ ⟨(blk_cell BK122.out 0).trans rfl, (blk_cell BK122.out 1).trans rfl, (blk_cell BK122.out 2).trans rfl, (blk_cell BK123.out 0).trans rfl, (blk_cell BK123.out 1).trans rfl, (blk_cell BK123.out 2).trans rfl, (blk_cell BK115.out 0).trans rfl, (blk_cell BK115.out 1).trans rfl, (blk_cell BK115.out 2).trans rfl⟩ (fun hHeld => ?_)
                    clear hK K
                    refine norm_ (a' := ?_) ?_ ?_
                    rotate_left
                    · show Act.put _ (some 31) _ = _
                      simp only [Act.put, List.setIfInBounds_toArray, List.set_cons_zero, List.set_cons_succ, i64_w, i32_w]
                      rfl
                    refine pure_ (i := 13) (N := some 32) (v := ?_) (a' := ?_) #[true, true, true, true, true, true, true, true, true, true, true, true, true, true, false, false, false, false, false, false, false, false, false, false, false, false, false, false, false, false, false, false, false, false, false, false, false, false, false, false, false, false, false, false, false, false, false, false, false, false, false, false, false, false, false, false, false, false, false, false, false, false, false] rfl rfl (any_of HT_.out (by kernel_rfl)) (fun _ _ _ h => h) (Or.inl ⟨by rfl, ?_⟩) ?_ ?_
                    rotate_left
                    · intro w'
                      go_simp
                      with_reducible rfl
                    rotate_left
                    · simp only [Act.put, List.setIfInBounds_toArray, List.set_cons_zero, List.set_cons_succ, i64_w, i32_w]
                      rfl
                    refine pure_ (i := 14) (N := some 33) (v := ?_) (a' := ?_) #[true, true, true, true, true, true, true, true, true, true, true, true, true, true, true, false, false, false, false, false, false, false, false, false, false, false, false, false, false, false, false, false, false, false, false, false, false, false, false, false, false, false, false, false, false, false, false, false, false, false, false, false, false, false, false, false, false, false, false, false, false, false, false] rfl rfl (any_of HT_.out (by kernel_rfl)) (fun _ _ _ h => h) (Or.inl ⟨by rfl, ?_⟩) ?_ ?_
                    rotate_left
                    · intro w'
                      go_simp
                      with_reducible rfl
                    rotate_left
                    · simp only [Act.put, List.setIfInBounds_toArray, List.set_cons_zero, List.set_cons_succ, i64_w, i32_w]
                      rfl
                    refine pure_ (i := 15) (N := some 34) (v := ?_) (a' := ?_) #[true, true, true, true, true, true, true, true, true, true, true, true, true, true, true, true, false, false, false, false, false, false, false, false, false, false, false, false, false, false, false, false, false, false, false, false, false, false, false, false, false, false, false, false, false, false, false, false, false, false, false, false, false, false, false, false, false, false, false, false, false, false, false] rfl rfl (any_of HT_.out (by kernel_rfl)) (fun _ _ _ h => h) (Or.inl ⟨by rfl, ?_⟩) ?_ ?_
                    rotate_left
                    · intro w'
                      go_simp
                      with_reducible rfl
                    rotate_left
                    · simp only [Act.put, List.setIfInBounds_toArray, List.set_cons_zero, List.set_cons_succ, i64_w, i32_w]
                      rfl
                    refine pure_ (i := 16) (N := some 35) (v := ?_) (a' := ?_) #[true, true, true, true, true, true, true, true, true, true, true, true, true, true, true, true, true, false, false, false, false, false, false, false, false, false, false, false, false, false, false, false, false, false, false, false, false, false, false, false, false, false, false, false, false, false, false, false, false, false, false, false, false, false, false, false, false, false, false, false, false, false, false] rfl rfl (any_of HT_.out (by kernel_rfl)) (fun _ _ _ h => h) (Or.inl ⟨by rfl, ?_⟩) ?_ ?_
                    rotate_left
                    · intro w'
                      go_simp
                      with_reducible rfl
                    rotate_left
                    · simp only [Act.put, List.setIfInBounds_toArray, List.set_cons_zero, List.set_cons_succ, i64_w, i32_w]
                      rfl
                    refine pure_ (i := 18) (N := some 37) (v := ?_) (a' := ?_) #[true, true, true, true, true, true, true, true, true, true, true, true, true, true, true, true, true, false, true, false, false, false, false, false, false, false, false, false, false, false, false, false, false, false, false, false, false, false, false, false, false, false, false, false, false, false, false, false, false, false, false, false, false, false, false, false, false, false, false, false, false, false, false] rfl rfl (any_of HT_.out (by kernel_rfl)) (fun _ _ _ h => h) (Or.inl ⟨by rfl, ?_⟩) ?_ ?_
                    rotate_left
                    · intro w'
                      go_simp
                      with_reducible rfl
                    rotate_left
                    · simp only [Act.put, List.setIfInBounds_toArray, List.set_cons_zero, List.set_cons_succ, i64_w, i32_w]
                      rfl
                    refine pure_ (i := 21) (N := some 40) (v := ?_) (a' := ?_) #[true, true, true, true, true, true, true, true, true, true, true, true, true, true, true, true, true, false, true, false, false, true, false, false, false, false, false, false, false, false, false, false, false, false, false, false, false, false, false, false, false, false, false, false, false, false, false, false, false, false, false, false, false, false, false, false, false, false, false, false, false, false, false] rfl rfl (any_of HT_.out (by kernel_rfl)) (fun _ _ _ h => h) (Or.inl ⟨by rfl, ?_⟩) ?_ ?_
                    rotate_left
                    · intro w'
                      go_simp
                      with_reducible rfl
                    rotate_left
                    · simp only [Act.put, List.setIfInBounds_toArray, List.set_cons_zero, List.set_cons_succ, i64_w, i32_w]
                      rfl
                    refine take_ (i := 17) (N := some 36) (v := ?_) (a' := ?_) #[true, true, true, true, true, true, true, true, true, true, true, true, true, true, true, true, true, true, true, false, false, true, false, false, false, false, false, false, false, false, false, false, false, false, false, false, false, false, false, false, false, false, false, false, false, false, false, false, false, false, false, false, false, false, false, false, false, false, false, false, false, false, false] rfl rfl (take_ofW HT_.out HW_.out (by kernel_rfl)) (fun _ _ _ h => h) (Or.inl ⟨by rfl, ?_⟩) hHeld ?_ ?_
                    rotate_left
                    · rintro w' ⟨s0, s1, s2, s3, s4, s5, s6, s7, s8⟩
                      go_simp
                      with_reducible rfl
                    rotate_left
                    · simp only [Act.put, List.setIfInBounds_toArray, List.set_cons_zero, List.set_cons_succ, i64_w, i32_w]
                      rfl
                    refine take_ (i := 20) (N := some 39) (v := ?_) (a' := ?_) #[true, true, true, true, true, true, true, true, true, true, true, true, true, true, true, true, true, true, true, false, true, true, false, false, false, false, false, false, false, false, false, false, false, false, false, false, false, false, false, false, false, false, false, false, false, false, false, false, false, false, false, false, false, false, false, false, false, false, false, false, false, false, false] rfl rfl (take_ofW HT_.out HW_.out (by kernel_rfl)) (fun _ _ _ h => h) (Or.inl ⟨by rfl, ?_⟩) hHeld ?_ ?_
                    rotate_left
                    · rintro w' ⟨s0, s1, s2, s3, s4, s5, s6, s7, s8⟩
                      go_simp
                      with_reducible rfl
                    rotate_left
                    · simp only [Act.put, List.setIfInBounds_toArray, List.set_cons_zero, List.set_cons_succ, i64_w, i32_w]
                      rfl
                    refine one_ (i := 19) (N := some 38) #[true, true, true, true, true, true, true, true, true, true, true, true, true, true, true, true, true, true, true, true, true, true, false, false, false, false, false, false, false, false, false, false, false, false, false, false, false, false, false, false, false, false, false, false, false, false, false, false, false, false, false, false, false, false, false, false, false, false, false, false, false, false, false] rfl rfl (one_of HT_.out (by kernel_rfl)) (by decide) (fun K hK => ?_)
                    refine goes_ Tryd.func17 (by kernel_rfl) rfl #[.agg #[.int .u32 t116, .int .u8 t117, .int .u8 t118], .int .u32 (Go.bits .andNot .u32 a2 a1)] (by rfl) rfl rfl (by (try simp only [List.map_toArray, List.map_cons, List.map_nil]); first | done | rfl | (simp only [List.length_drop, List.length_take]; rfl)) ?_
                    with_reducible refine (attrs_Has.calls t116 t117 t118 (Go.bits .andNot .u32 a2 a1) t137 _ A173.out).mono ?_
                    rintro e w202 ⟨rfl, hb⟩
                    refine ⟨_, rfl, ?_⟩
                    have n0_ := Aside0.mk (blk_below (g := gb115) (o := .cells #[.int .u32 a0_0, .int .u8 a0_1, .int .u8 a0_2] 24 (0, 0)) (by (with_reducible repeat (first | refine blk_drewN ?_ _ | refine blk_drew ?_ | refine blk_alloc ?_ _)); exact BK115.out) hb)
                    have n1_ := Aside0.mk (blk_below (g := gb122) (o := .cells #[.int .u32 t116, .int .u8 t117, .int .u8 t118] 24 (0, 0)) (by (with_reducible repeat (first | refine blk_drewN ?_ _ | refine blk_drew ?_ | refine blk_alloc ?_ _)); exact BK122.out) hb)
                    have n2_ := Aside0.mk (blk_below (g := gb123) (o := .cells #[.int .u32 t119, .int .u8 t120, .int .u8 t121] 24 (0, 0)) (by (with_reducible repeat (first | refine blk_drewN ?_ _ | refine blk_drew ?_ | refine blk_alloc ?_ _)); exact BK123.out) hb)
                    have n3_ := Aside0.mk (below_step (by repeat (first | (with_reducible first | exact HB.out | apply below_alloc | apply pw_below_drewN | apply below_drew1 | refine below_set ?_ GE115.out | refine below_set ?_ GE122.out | refine below_set ?_ GE123.out) | exact HB.out)) hb)
                    clear BK115
                    clear BK122
                    clear BK123
                    clear HB
                    have BK115 := n0_
                    have BK122 := n1_
                    have BK123 := n2_
                    have HB := n3_
                    clear n0_ n1_ n2_ n3_
                    (try clear hb)
                    (try clear hb2)
                    (try clear hk)
                    (try clear hi)
                    refine hK.out _ _ ⟨(blk_cell BK122.out 0).trans rfl, (blk_cell BK122.out 1).trans rfl, (blk_cell BK122.out 2).trans rfl, (blk_cell BK123.out 0).trans rfl, (blk_cell BK123.out 1).trans rfl, (blk_cell BK123.out 2).trans rfl, (blk_cell BK115.out 0).trans rfl, (blk_cell BK115.out 1).trans rfl, (blk_cell BK115.out 2).trans rfl⟩ (fun hHeld => ?_)
                    clear hK K
                    refine norm_ (a' := ?_) ?_ ?_
                    rotate_left
                    · show Act.put _ (some 38) _ = _
                      simp only [Act.put, List.setIfInBounds_toArray, List.set_cons_zero, List.set_cons_succ, i64_w, i32_w]
                      rfl
                    refine one_ (i := 22) (N := some 41) #[true, true, true, true, true, true, true, true, true, true, true, true, true, true, true, true, true, true, true, true, true, true, true, false, false, false, false, false, false, false, false, false, false, false, false, false, false, false, false, false, false, false, false, false, false, false, false, false, false, false, false, false, false, false, false, false, false, false, false, false, false, false, false] rfl rfl (one_of HT_.out (by kernel_rfl)) (by decide) (fun K hK => ?_)
                    refine goes_ Tryd.func17 (by kernel_rfl) rfl #[.agg #[.int .u32 a0_0, .int .u8 a0_1, .int .u8 a0_2], .int .u32 (Go.bits .andNot .u32 a2 a1)] (by rfl) rfl rfl (by (try simp only [List.map_toArray, List.map_cons, List.map_nil]); first | done | rfl | (simp only [List.length_drop, List.length_take]; rfl)) ?_
                    with_reducible refine (attrs_Has.calls a0_0 a0_1 a0_2 (Go.bits .andNot .u32 a2 a1) t138 _ A174.out).mono ?_
                    rintro e w203 ⟨rfl, hb⟩
                    refine ⟨_, rfl, ?_⟩
                    have n0_ := Aside0.mk (blk_below (g := gb115) (o := .cells #[.int .u32 a0_0, .int .u8 a0_1, .int .u8 a0_2] 24 (0, 0)) (by (with_reducible repeat (first | refine blk_drewN ?_ _ | refine blk_drew ?_ | refine blk_alloc ?_ _)); exact BK115.out) hb)
                    have n1_ := Aside0.mk (blk_below (g := gb122) (o := .cells #[.int .u32 t116, .int .u8 t117, .int .u8 t118] 24 (0, 0)) (by (with_reducible repeat (first | refine blk_drewN ?_ _ | refine blk_drew ?_ | refine blk_alloc ?_ _)); exact BK122.out) hb)
                    have n2_ := Aside0.mk (blk_below (g := gb123) (o := .cells #[.int .u32 t119, .int .u8 t120, .int .u8 t121] 24 (0, 0)) (by (with_reducible repeat (first | refine blk_drewN ?_ _ | refine blk_drew ?_ | refine blk_alloc ?_ _)); exact BK123.out) hb)
                    have n3_ := Aside0.mk (below_step (by repeat (first | (with_reducible first | exact HB.out | apply below_alloc | apply pw_below_drewN | apply below_drew1 | refine below_set ?_ GE115.out | refine below_set ?_ GE122.out | refine below_set ?_ GE123.out) | exact HB.out)) hb)
                    clear BK115
                    clear BK122
                    clear BK123
                    clear HB
                    have BK115 := n0_
                    have BK122 := n1_
                    have BK123 := n2_
                    have HB := n3_
                    clear n0_ n1_ n2_ n3_
                    (try clear hb)
                    (try clear hb2)
                    (try clear hk)
                    (try clear hi)
                    refine hK.out _ _ ⟨(blk_cell BK122.out 0).trans rfl, (blk_cell BK122.out 1).trans rfl, (blk_cell BK122.out 2).trans rfl, (blk_cell BK123.out 0).trans rfl, (blk_cell BK123.out 1).trans rfl, (blk_cell BK123.out 2).trans rfl, (blk_cell BK115.out 0).trans rfl, (blk_cell BK115.out 1).trans rfl, (blk_cell BK115.out 2).trans rfl⟩ (fun hHeld => ?_)
                    clear hK K
                    refine norm_ (a' := ?_) ?_ ?_
                    rotate_left
                    · show Act.put _ (some 41) _ = _
                      simp only [Act.put, List.setIfInBounds_toArray, List.set_cons_zero, List.set_cons_succ, i64_w, i32_w]
                      rfl
                    refine pure_ (i := 23) (N := some 42) (v := ?_) (a' := ?_) #[true, true, true, true, true, true, true, true, true, true, true, true, true, true, true, true, true, true, true, true, true, true, true, true, false, false, false, false, false, false, false, false, false, false, false, false, false, false, false, false, false, false, false, false, false, false, false, false, false, false, false, false, false, false, false, false, false, false, false, false, false, false, false] rfl rfl (any_of HT_.out (by kernel_rfl)) (fun _ _ _ h => h) (Or.inl ⟨by rfl, ?_⟩) ?_ ?_
                    rotate_left
                    · intro w'
                      go_simp
                      with_reducible rfl
                    rotate_left
                    · simp only [Act.put, List.setIfInBounds_toArray, List.set_cons_zero, List.set_cons_succ, i64_w, i32_w]
                      rfl
                    refine pure_ (i := 24) (N := some 43) (v := ?_) (a' := ?_) #[true, true, true, true, true, true, true, true, true, true, true, true, true, true, true, true, true, true, true, true, true, true, true, true, true, false, false, false, false, false, false, false, false, false, false, false, false, false, false, false, false, false, false, false, false, false, false, false, false, false, false, false, false, false, false, false, false, false, false, false, false, false, false] rfl rfl (any_of HT_.out (by kernel_rfl)) (fun _ _ _ h => h) (Or.inl ⟨by rfl, ?_⟩) ?_ ?_
                    rotate_left
                    · intro w'
                      go_simp
                      with_reducible rfl
                    rotate_left
                    · simp only [Act.put, List.setIfInBounds_toArray, List.set_cons_zero, List.set_cons_succ, i64_w, i32_w]
                      rfl
                    refine pure_ (i := 25) (N := some 44) (v := ?_) (a' := ?_) #[true, true, true, true, true, true, true, true, true, true, true, true, true, true, true, true, true, true, true, true, true, true, true, true, true, true, false, false, false, false, false, false, false, false, false, false, false, false, false, false, false, false, false, false, false, false, false, false, false, false, false, false, false, false, false, false, false, false, false, false, false, false, false] rfl rfl (any_of HT_.out (by kernel_rfl)) (fun _ _ _ h => h) (Or.inl ⟨by rfl, ?_⟩) ?_ ?_
                    rotate_left
                    · intro w'
                      go_simp
                      with_reducible rfl
                    rotate_left
                    · simp only [Act.put, List.setIfInBounds_toArray, List.set_cons_zero, List.set_cons_succ, i64_w, i32_w]
                      rfl
                    refine pure_ (i := 27) (N := some 46) (v := ?_) (a' := ?_) #[true, true, true, true, true, true, true, true, true, true, true, true, true, true, true, true, true, true, true, true, true, true, true, true, true, true, false, true, false, false, false, false, false, false, false, false, false, false, false, false, false, false, false, false, false, false, false, false, false, false, false, false, false, false, false, false, false, false, false, false, false, false, false] rfl rfl (any_of HT_.out (by kernel_rfl)) (fun _ _ _ h => h) (Or.inl ⟨by rfl, ?_⟩) ?_ ?_
                    rotate_left
                    · intro w'
                      go_simp
                      with_reducible rfl
                    rotate_left
                    · simp only [Act.put, List.setIfInBounds_toArray, List.set_cons_zero, List.set_cons_succ, i64_w, i32_w]
                      rfl
                    refine pure_ (i := 30) (N := some 49) (v := ?_) (a' := ?_) #[true, true, true, true, true, true, true, true, true, true, true, true, true, true, true, true, true, true, true, true, true, true, true, true, true, true, false, true, false, false, true, false, false, false, false, false, false, false, false, false, false, false, false, false, false, false, false, false, false, false, false, false, false, false, false, false, false, false, false, false, false, false, false] rfl rfl (any_of HT_.out (by kernel_rfl)) (fun _ _ _ h => h) (Or.inl ⟨by rfl, ?_⟩) ?_ ?_
                    rotate_left
                    · intro w'
                      go_simp
                      with_reducible rfl
                    rotate_left
                    · simp only [Act.put, List.setIfInBounds_toArray, List.set_cons_zero, List.set_cons_succ, i64_w, i32_w]
                      rfl
                    refine take_ (i := 26) (N := some 45) (v := ?_) (a' := ?_) #[true, true, true, true, true, true, true, true, true, true, true, true, true, true, true, true, true, true, true, true, true, true, true, true, true, true, true, true, false, false, true, false, false, false, false, false, false, false, false, false, false, false, false, false, false, false, false, false, false, false, false, false, false, false, false, false, false, false, false, false, false, false, false] rfl rfl (take_ofW HT_.out HW_.out (by kernel_rfl)) (fun _ _ _ h => h) (Or.inl ⟨by rfl, ?_⟩) hHeld ?_ ?_
                    rotate_left
                    · rintro w' ⟨s0, s1, s2, s3, s4, s5, s6, s7, s8⟩
                      go_simp
                      with_reducible rfl
                    rotate_left
                    · simp only [Act.put, List.setIfInBounds_toArray, List.set_cons_zero, List.set_cons_succ, i64_w, i32_w]
                      rfl
                    refine take_ (i := 29) (N := some 48) (v := ?_) (a' := ?_) #[true, true, true, true, true, true, true, true, true, true, true, true, true, true, true, true, true, true, true, true, true, true, true, true, true, true, true, true, false, true, true, false, false, false, false, false, false, false, false, false, false, false, false, false, false, false, false, false, false, false, false, false, false, false, false, false, false, false, false, false, false, false, false] rfl rfl (take_ofW HT_.out HW_.out (by kernel_rfl)) (fun _ _ _ h => h) (Or.inl ⟨by rfl, ?_⟩) hHeld ?_ ?_
                    rotate_left
                    · rintro w' ⟨s0, s1, s2, s3, s4, s5, s6, s7, s8⟩
                      go_simp
                      with_reducible rfl
                    rotate_left
                    · simp only [Act.put, List.setIfInBounds_toArray, List.set_cons_zero, List.set_cons_succ, i64_w, i32_w]
                      rfl
                    refine one_ (i := 28) (N := some 47) #[true, true, true, true, true, true, true, true, true, true, true, true, true, true, true, true, true, true, true, true, true, true, true, true, true, true, true, true, true, true, true, false, false, false, false, false, false, false, false, false, false, false, false, false, false, false, false, false, false, false, false, false, false, false, false, false, false, false, false, false, false, false, false] rfl rfl (one_of HT_.out (by kernel_rfl)) (by decide) (fun K hK => ?_)
                    refine goes_ Tryd.func17 (by kernel_rfl) rfl #[.agg #[.int .u32 t119, .int .u8 t120, .int .u8 t121], .int .u32 (Go.bits .andNot .u32 a2 a1)] (by rfl) rfl rfl (by (try simp only [List.map_toArray, List.map_cons, List.map_nil]); first | done | rfl | (simp only [List.length_drop, List.length_take]; rfl)) ?_
                    with_reducible refine (attrs_Has.calls t119 t120 t121 (Go.bits .andNot .u32 a2 a1) t139 _ A176.out).mono ?_
                    rintro e w204 ⟨rfl, hb⟩
                    refine ⟨_, rfl, ?_⟩
                    have n0_ := Aside0.mk (blk_below (g := gb115) (o := .cells #[.int .u32 a0_0, .int .u8 a0_1, .int .u8 a0_2] 24 (0, 0)) (by (with_reducible repeat (first | refine blk_drewN ?_ _ | refine blk_drew ?_ | refine blk_alloc ?_ _)); exact BK115.out) hb)
                    have n1_ := Aside0.mk (blk_below (g := gb122) (o := .cells #[.int .u32 t116, .int .u8 t117, .int .u8 t118] 24 (0, 0)) (by (with_reducible repeat (first | refine blk_drewN ?_ _ | refine blk_drew ?_ | refine blk_alloc ?_ _)); exact BK122.out) hb)
                    have n2_ := Aside0.mk (blk_below (g := gb123) (o := .cells #[.int .u32 t119, .int .u8 t120, .int .u8 t121] 24 (0, 0)) (by (with_reducible repeat (first | refine blk_drewN ?_ _ | refine blk_drew ?_ | refine blk_alloc ?_ _)); exact BK123.out) hb)
                    have n3_ := Aside0.mk (below_step (by repeat (first | (with_reducible first | exact HB.out | apply below_alloc | apply pw_below_drewN | apply below_drew1 | refine below_set ?_ GE115.out | refine below_set ?_ GE122.out | refine below_set ?_ GE123.out) | exact HB.out)) hb)
                    clear BK115
                    clear BK122
                    clear BK123
                    clear HB
                    have BK115 := n0_
                    have BK122 := n1_
                    have BK123 := n2_
                    have HB := n3_
                    clear n0_ n1_ n2_ n3_
                    (try clear hb)
                    (try clear hb2)
                    (try clear hk)
                    (try clear hi)
                    refine hK.out _ _ ⟨(blk_cell BK122.out 0).trans rfl, (blk_cell BK122.out 1).trans rfl, (blk_cell BK122.out 2).trans rfl, (blk_cell BK123.out 0).trans rfl, (blk_cell BK123.out 1).trans rfl, (blk_cell BK123.out 2).trans rfl, (blk_cell BK115.out 0).trans rfl, (blk_cell BK115.out 1).trans rfl, (blk_cell BK115.out 2).trans rfl⟩ (fun hHeld => ?_)
                    clear hK K
                    refine norm_ (a' := ?_) ?_ ?_
                    rotate_left
                    · show Act.put _ (some 47) _ = _
                      simp only [Act.put, List.setIfInBounds_toArray, List.set_cons_zero, List.set_cons_succ, i64_w, i32_w]
                      rfl
                    refine one_ (i := 31) (N := some 50) #[true, true, true, true, true, true, true, true, true, true, true, true, true, true, true, true, true, true, true, true, true, true, true, true, true, true, true, true, true, true, true, true, false, false, false, false, false, false, false, false, false, false, false, false, false, false, false, false, false, false, false, false, false, false, false, false, false, false, false, false, false, false, false] rfl rfl (one_of HT_.out (by kernel_rfl)) (by decide) (fun K hK => ?_)
                    refine goes_ Tryd.func17 (by kernel_rfl) rfl #[.agg #[.int .u32 a0_0, .int .u8 a0_1, .int .u8 a0_2], .int .u32 (Go.bits .andNot .u32 a2 a1)] (by rfl) rfl rfl (by (try simp only [List.map_toArray, List.map_cons, List.map_nil]); first | done | rfl | (simp only [List.length_drop, List.length_take]; rfl)) ?_
                    with_reducible refine (attrs_Has.calls a0_0 a0_1 a0_2 (Go.bits .andNot .u32 a2 a1) t140 _ A177.out).mono ?_
                    rintro e w205 ⟨rfl, hb⟩
                    refine ⟨_, rfl, ?_⟩
                    have n0_ := Aside0.mk (blk_below (g := gb115) (o := .cells #[.int .u32 a0_0, .int .u8 a0_1, .int .u8 a0_2] 24 (0, 0)) (by (with_reducible repeat (first | refine blk_drewN ?_ _ | refine blk_drew ?_ | refine blk_alloc ?_ _)); exact BK115.out) hb)
                    have n1_ := Aside0.mk (blk_below (g := gb122) (o := .cells #[.int .u32 t116, .int .u8 t117, .int .u8 t118] 24 (0, 0)) (by (with_reducible repeat (first | refine blk_drewN ?_ _ | refine blk_drew ?_ | refine blk_alloc ?_ _)); exact BK122.out) hb)
                    have n2_ := Aside0.mk (blk_below (g := gb123) (o := .cells #[.int .u32 t119, .int .u8 t120, .int .u8 t121] 24 (0, 0)) (by (with_reducible repeat (first | refine blk_drewN ?_ _ | refine blk_drew ?_ | refine blk_alloc ?_ _)); exact BK123.out) hb)
                    have n3_ := Aside0.mk (below_step (by repeat (first | (with_reducible first | exact HB.out | apply below_alloc | apply pw_below_drewN | apply below_drew1 | refine below_set ?_ GE115.out | refine below_set ?_ GE122.out | refine below_set ?_ GE123.out) | exact HB.out)) hb)
                    clear BK115
                    clear BK122
                    clear BK123
                    clear HB
                    have BK115 := n0_
                    have BK122 := n1_
                    have BK123 := n2_
                    have HB := n3_
                    clear n0_ n1_ n2_ n3_
                    (try clear hb)
                    (try clear hb2)
                    (try clear hk)
                    (try clear hi)
                    refine hK.out _ _ ⟨(blk_cell BK122.out 0).trans rfl, (blk_cell BK122.out 1).trans rfl, (blk_cell BK122.out 2).trans rfl, (blk_cell BK123.out 0).trans rfl, (blk_cell BK123.out 1).trans rfl, (blk_cell BK123.out 2).trans rfl, (blk_cell BK115.out 0).trans rfl, (blk_cell BK115.out 1).trans rfl, (blk_cell BK115.out 2).trans rfl⟩ (fun hHeld => ?_)
                    clear hK K
                    refine norm_ (a' := ?_) ?_ ?_
                    rotate_left
                    · show Act.put _ (some 50) _ = _
                      simp only [Act.put, List.setIfInBounds_toArray, List.set_cons_zero, List.set_cons_succ, i64_w, i32_w]
                      rfl
                    refine pure_ (i := 32) (N := some 51) (v := ?_) (a' := ?_) #[true, true, true, true, true, true, true, true, true, true, true, true, true, true, true, true, true, true, true, true, true, true, true, true, true, true, true, true, true, true, true, true, true, false, false, false, false, false, false, false, false, false, false, false, false, false, false, false, false, false, false, false, false, false, false, false, false, false, false, false, false, false, false] rfl rfl (any_of HT_.out (by kernel_rfl)) (fun _ _ _ h => h) (Or.inl ⟨by rfl, ?_⟩) ?_ ?_
                    rotate_left
                    · intro w'
                      go_simp
                      with_reducible rfl
                    rotate_left
                    · simp only [Act.put, List.setIfInBounds_toArray, List.set_cons_zero, List.set_cons_succ, i64_w, i32_w]
                      rfl
                    refine pure_ (i := 33) (N := some 52) (v := ?_) (a' := ?_) #[true, true, true, true, true, true, true, true, true, true, true, true, true, true, true, true, true, true, true, true, true, true, true, true, true, true, true, true, true, true, true, true, true, true, false, false, false, false, false, false, false, false, false, false, false, false, false, false, false, false, false, false, false, false, false, false, false, false, false, false, false, false, false] rfl rfl (any_of HT_.out (by kernel_rfl)) (fun _ _ _ h => h) (Or.inl ⟨by rfl, ?_⟩) ?_ ?_
                    rotate_left
                    · intro w'
                      go_simp
                      with_reducible rfl
                    rotate_left
                    · simp only [Act.put, List.setIfInBounds_toArray, List.set_cons_zero, List.set_cons_succ, i64_w, i32_w]
                      rfl
                    refine pure_ (i := 34) (N := some 53) (v := ?_) (a' := ?_) #[true, true, true, true, true, true, true, true, true, true, true, true, true, true, true, true, true, true, true, true, true, true, true, true, true, true, true, true, true, true, true, true, true, true, true, false, false, false, false, false, false, false, false, false, false, false, false, false, false, false, false, false, false, false, false, false, false, false, false, false, false, false, false] rfl rfl (any_of HT_.out (by kernel_rfl)) (fun _ _ _ h => h) (Or.inl ⟨by rfl, ?_⟩) ?_ ?_
                    rotate_left
                    · intro w'
                      go_simp
                      with_reducible rfl
                    rotate_left
                    · simp only [Act.put, List.setIfInBounds_toArray, List.set_cons_zero, List.set_cons_succ, i64_w, i32_w]
                      rfl
                    refine pure_ (i := 36) (N := some 55) (v := ?_) (a' := ?_) #[true, true, true, true, true, true, true, true, true, true, true, true, true, true, true, true, true, true, true, true, true, true, true, true, true, true, true, true, true, true, true, true, true, true, true, false, true, false, false, false, false, false, false, false, false, false, false, false, false, false, false, false, false, false, false, false, false, false, false, false, false, false, false] rfl rfl (any_of HT_.out (by kernel_rfl)) (fun _ _ _ h => h) (Or.inl ⟨by rfl, ?_⟩) ?_ ?_
                    rotate_left
                    · intro w'
                      go_simp
                      with_reducible rfl
                    rotate_left
                    · simp only [Act.put, List.setIfInBounds_toArray, List.set_cons_zero, List.set_cons_succ, i64_w, i32_w]
                      rfl
                    refine take_ (i := 35) (N := some 54) (v := ?_) (a' := ?_) #[true, true, true, true, true, true, true, true, true, true, true, true, true, true, true, true, true, true, true, true, true, true, true, true, true, true, true, true, true, true, true, true, true, true, true, true, true, false, false, false, false, false, false, false, false, false, false, false, false, false, false, false, false, false, false, false, false, false, false, false, false, false, false] rfl rfl (take_ofW HT_.out HW_.out (by kernel_rfl)) (fun _ _ _ h => h) (Or.inl ⟨by rfl, ?_⟩) hHeld ?_ ?_
                    rotate_left
                    · rintro w' ⟨s0, s1, s2, s3, s4, s5, s6, s7, s8⟩
                      go_simp
                      with_reducible rfl
                    rotate_left
                    · simp only [Act.put, List.setIfInBounds_toArray, List.set_cons_zero, List.set_cons_succ, i64_w, i32_w]
                      rfl
                    refine take_ (i := 38) (N := some 57) (v := ?_) (a' := ?_) #[true, true, true, true, true, true, true, true, true, true, true, true, true, true, true, true, true, true, true, true, true, true, true, true, true, true, true, true, true, true, true, true, true, true, true, true, true, false, true, false, false, false, false, false, false, false, false, false, false, false, false, false, false, false, false, false, false, false, false, false, false, false, false] rfl rfl (take_ofW HT_.out HW_.out (by kernel_rfl)) (fun _ _ _ h => h) (Or.inl ⟨by rfl, ?_⟩) hHeld ?_ ?_
                    rotate_left
                    · rintro w' ⟨s0, s1, s2, s3, s4, s5, s6, s7, s8⟩
                      go_simp
                      with_reducible rfl
                    rotate_left
                    · simp only [Act.put, List.setIfInBounds_toArray, List.set_cons_zero, List.set_cons_succ, i64_w, i32_w]
                      rfl
                    refine one_ (i := 37) (N := some 56) #[true, true, true, true, true, true, true, true, true, true, true, true, true, true, true, true, true, true, true, true, true, true, true, true, true, true, true, true, true, true, true, true, true, true, true, true, true, true, true, false, false, false, false, false, false, false, false, false, false, false, false, false, false, false, false, false, false, false, false, false, false, false, false] rfl rfl (one_of HT_.out (by kernel_rfl)) (by decide) (fun K hK => ?_)
                    refine goes_ Tryd.func18 (by kernel_rfl) rfl #[.agg #[.int .u32 t116, .int .u8 t117, .int .u8 t118], .int .u32 a1, .bool true] (by rfl) rfl rfl (by (try simp only [List.map_toArray, List.map_cons, List.map_nil]); first | done | rfl | (simp only [List.length_drop, List.length_take]; rfl)) ?_
                    with_reducible refine (attrs_With.calls t116 t117 t118 a1 true t141 t142 t143 _ A179.out).mono ?_
                    rintro e w206 ⟨rfl, hb⟩
                    refine ⟨_, rfl, ?_⟩
                    have n0_ := Aside0.mk (blk_below (g := gb115) (o := .cells #[.int .u32 a0_0, .int .u8 a0_1, .int .u8 a0_2] 24 (0, 0)) (by (with_reducible repeat (first | refine blk_drewN ?_ _ | refine blk_drew ?_ | refine blk_alloc ?_ _)); exact BK115.out) hb)
                    have n1_ := Aside0.mk (blk_below (g := gb122) (o := .cells #[.int .u32 t116, .int .u8 t117, .int .u8 t118] 24 (0, 0)) (by (with_reducible repeat (first | refine blk_drewN ?_ _ | refine blk_drew ?_ | refine blk_alloc ?_ _)); exact BK122.out) hb)
                    have n2_ := Aside0.mk (blk_below (g := gb123) (o := .cells #[.int .u32 t119, .int .u8 t120, .int .u8 t121] 24 (0, 0)) (by (with_reducible repeat (first | refine blk_drewN ?_ _ | refine blk_drew ?_ | refine blk_alloc ?_ _)); exact BK123.out) hb)
                    have n3_ := Aside0.mk (below_step (by repeat (first | (with_reducible first | exact HB.out | apply below_alloc | apply pw_below_drewN | apply below_drew1 | refine below_set ?_ GE115.out | refine below_set ?_ GE122.out | refine below_set ?_ GE123.out) | exact HB.out)) hb)
                    clear BK115
                    clear BK122
                    clear BK123
                    clear HB
                    have BK115 := n0_
                    have BK122 := n1_
                    have BK123 := n2_
                    have HB := n3_
                    clear n0_ n1_ n2_ n3_
                    (try clear hb)
                    (try clear hb2)
                    (try clear hk)
                    (try clear hi)
                    refine hK.out _ _ ⟨(blk_cell BK122.out 0).trans rfl, (blk_cell BK122.out 1).trans rfl, (blk_cell BK122.out 2).trans rfl, (blk_cell BK123.out 0).trans rfl, (blk_cell BK123.out 1).trans rfl, (blk_cell BK123.out 2).trans rfl, (blk_cell BK115.out 0).trans rfl, (blk_cell BK115.out 1).trans rfl, (blk_cell BK115.out 2).trans rfl⟩ (fun hHeld => ?_)
                    clear hK K
                    refine norm_ (a' := ?_) ?_ ?_
                    rotate_left
                    · show Act.put _ (some 56) _ = _
                      simp only [Act.put, List.setIfInBounds_toArray, List.set_cons_zero, List.set_cons_succ, i64_w, i32_w]
                      rfl
                    refine pure_ (i := 39) (N := some 58) (v := ?_) (a' := ?_) #[true, true, true, true, true, true, true, true, true, true, true, true, true, true, true, true, true, true, true, true, true, true, true, true, true, true, true, true, true, true, true, true, true, true, true, true, true, true, true, true, false, false, false, false, false, false, false, false, false, false, false, false, false, false, false, false, false, false, false, false, false, false, false] rfl rfl (any_of HT_.out (by kernel_rfl)) (fun _ _ _ h => h) (Or.inl ⟨by rfl, ?_⟩) ?_ ?_
                    rotate_left
                    · intro w'
                      go_simp
                      with_reducible rfl
                    rotate_left
                    · simp only [Act.put, List.setIfInBounds_toArray, List.set_cons_zero, List.set_cons_succ, i64_w, i32_w]
                      rfl
                    refine pure_ (i := 40) (N := some 59) (v := ?_) (a' := ?_) #[true, true, true, true, true, true, true, true, true, true, true, true, true, true, true, true, true, true, true, true, true, true, true, true, true, true, true, true, true, true, true, true, true, true, true, true, true, true, true, true, true, false, false, false, false, false, false, false, false, false, false, false, false, false, false, false, false, false, false, false, false, false, false] rfl rfl (any_of HT_.out (by kernel_rfl)) (fun _ _ _ h => h) (Or.inl ⟨by rfl, ?_⟩) ?_ ?_
                    rotate_left
                    · intro w'
                      go_simp
                      with_reducible rfl
                    rotate_left
                    · simp only [Act.put, List.setIfInBounds_toArray, List.set_cons_zero, List.set_cons_succ, i64_w, i32_w]
                      rfl
                    refine pure_ (i := 41) (N := some 60) (v := ?_) (a' := ?_) #[true, true, true, true, true, true, true, true, true, true, true, true, true, true, true, true, true, true, true, true, true, true, true, true, true, true, true, true, true, true, true, true, true, true, true, true, true, true, true, true, true, true, false, false, false, false, false, false, false, false, false, false, false, false, false, false, false, false, false, false, false, false, false] rfl rfl (any_of HT_.out (by kernel_rfl)) (fun _ _ _ h => h) (Or.inl ⟨by rfl, ?_⟩) ?_ ?_
                    rotate_left
                    · intro w'
                      go_simp
                      with_reducible rfl
                    rotate_left
                    · simp only [Act.put, List.setIfInBounds_toArray, List.set_cons_zero, List.set_cons_succ, i64_w, i32_w]
                      rfl
                    refine pure_ (i := 43) (N := some 62) (v := ?_) (a' := ?_) #[true, true, true, true, true, true, true, true, true, true, true, true, true, true, true, true, true, true, true, true, true, true, true, true, true, true, true, true, true, true, true, true, true, true, true, true, true, true, true, true, true, true, false, true, false, false, false, false, false, false, false, false, false, false, false, false, false, false, false, false, false, false, false] rfl rfl (any_of HT_.out (by kernel_rfl)) (fun _ _ _ h => h) (Or.inl ⟨by rfl, ?_⟩) ?_ ?_
                    rotate_left
                    · intro w'
                      go_simp
                      with_reducible rfl
                    rotate_left
                    · simp only [Act.put, List.setIfInBounds_toArray, List.set_cons_zero, List.set_cons_succ, i64_w, i32_w]
                      rfl
                    refine take_ (i := 42) (N := some 61) (v := ?_) (a' := ?_) #[true, true, true, true, true, true, true, true, true, true, true, true, true, true, true, true, true, true, true, true, true, true, true, true, true, true, true, true, true, true, true, true, true, true, true, true, true, true, true, true, true, true, true, true, false, false, false, false, false, false, false, false, false, false, false, false, false, false, false, false, false, false, false] rfl rfl (take_ofW HT_.out HW_.out (by kernel_rfl)) (fun _ _ _ h => h) (Or.inl ⟨by rfl, ?_⟩) hHeld ?_ ?_
                    rotate_left
                    · rintro w' ⟨s0, s1, s2, s3, s4, s5, s6, s7, s8⟩
                      go_simp
                      with_reducible rfl
                    rotate_left
                    · simp only [Act.put, List.setIfInBounds_toArray, List.set_cons_zero, List.set_cons_succ, i64_w, i32_w]
                      rfl
                    refine take_ (i := 45) (N := some 64) (v := ?_) (a' := ?_) #[true, true, true, true, true, true, true, true, true, true, true, true, true, true, true, true, true, true, true, true, true, true, true, true, true, true, true, true, true, true, true, true, true, true, true, true, true, true, true, true, true, true, true, true, false, true, false, false, false, false, false, false, false, false, false, false, false, false, false, false, false, false, false] rfl rfl (take_ofW HT_.out HW_.out (by kernel_rfl)) (fun _ _ _ h => h) (Or.inl ⟨by rfl, ?_⟩) hHeld ?_ ?_
                    rotate_left
                    · rintro w' ⟨s0, s1, s2, s3, s4, s5, s6, s7, s8⟩
                      go_simp
                      with_reducible rfl
                    rotate_left
                    · simp only [Act.put, List.setIfInBounds_toArray, List.set_cons_zero, List.set_cons_succ, i64_w, i32_w]
                      rfl
                    refine one_ (i := 44) (N := some 63) #[true, true, true, true, true, true, true, true, true, true, true, true, true, true, true, true, true, true, true, true, true, true, true, true, true, true, true, true, true, true, true, true, true, true, true, true, true, true, true, true, true, true, true, true, true, true, false, false, false, false, false, false, false, false, false, false, false, false, false, false, false, false, false] rfl rfl (one_of HT_.out (by kernel_rfl)) (by decide) (fun K hK => ?_)
                    refine goes_ Tryd.func18 (by kernel_rfl) rfl #[.agg #[.int .u32 t116, .int .u8 t117, .int .u8 t118], .int .u32 a1, .bool false] (by rfl) rfl rfl (by (try simp only [List.map_toArray, List.map_cons, List.map_nil]); first | done | rfl | (simp only [List.length_drop, List.length_take]; rfl)) ?_
                    with_reducible refine (attrs_With.calls t116 t117 t118 a1 false t144 t145 t146 _ A181.out).mono ?_
                    rintro e w207 ⟨rfl, hb⟩
                    refine ⟨_, rfl, ?_⟩
                    have n0_ := Aside0.mk (blk_below (g := gb115) (o := .cells #[.int .u32 a0_0, .int .u8 a0_1, .int .u8 a0_2] 24 (0, 0)) (by (with_reducible repeat (first | refine blk_drewN ?_ _ | refine blk_drew ?_ | refine blk_alloc ?_ _)); exact BK115.out) hb)
                    have n1_ := Aside0.mk (blk_below (g := gb122) (o := .cells #[.int .u32 t116, .int .u8 t117, .int .u8 t118] 24 (0, 0)) (by (with_reducible repeat (first | refine blk_drewN ?_ _ | refine blk_drew ?_ | refine blk_alloc ?_ _)); exact BK122.out) hb)
                    have n2_ := Aside0.mk (blk_below (g := gb123) (o := .cells #[.int .u32 t119, .int .u8 t120, .int .u8 t121] 24 (0, 0)) (by (with_reducible repeat (first | refine blk_drewN ?_ _ | refine blk_drew ?_ | refine blk_alloc ?_ _)); exact BK123.out) hb)
                    have n3_ := Aside0.mk (below_step (by repeat (first | (with_reducible first | exact HB.out | apply below_alloc | apply pw_below_drewN | apply below_drew1 | refine below_set ?_ GE115.out | refine below_set ?_ GE122.out | refine below_set ?_ GE123.out) | exact HB.out)) hb)
                    clear BK115
                    clear BK122
                    clear BK123
                    clear HB
                    have BK115 := n0_
                    have BK122 := n1_
                    have BK123 := n2_
                    have HB := n3_
                    clear n0_ n1_ n2_ n3_
                    (try clear hb)
                    (try clear hb2)
                    (try clear hk)
                    (try clear hi)
                    refine hK.out _ _ ⟨(blk_cell BK122.out 0).trans rfl, (blk_cell BK122.out 1).trans rfl, (blk_cell BK122.out 2).trans rfl, (blk_cell BK123.out 0).trans rfl, (blk_cell BK123.out 1).trans rfl, (blk_cell BK123.out 2).trans rfl, (blk_cell BK115.out 0).trans rfl, (blk_cell BK115.out 1).trans rfl, (blk_cell BK115.out 2).trans rfl⟩ (fun hHeld => ?_)
                    clear hK K
                    refine norm_ (a' := ?_) ?_ ?_
                    rotate_left
                    · show Act.put _ (some 63) _ = _
                      simp only [Act.put, List.setIfInBounds_toArray, List.set_cons_zero, List.set_cons_succ, i64_w, i32_w]
                      rfl
                    refine pure_ (i := 46) (N := some 65) (v := ?_) (a' := ?_) #[true, true, true, true, true, true, true, true, true, true, true, true, true, true, true, true, true, true, true, true, true, true, true, true, true, true, true, true, true, true, true, true, true, true, true, true, true, true, true, true, true, true, true, true, true, true, true, false, false, false, false, false, false, false, false, false, false, false, false, false, false, false, false] rfl rfl (any_of HT_.out (by kernel_rfl)) (fun _ _ _ h => h) (Or.inl ⟨by rfl, ?_⟩) ?_ ?_
                    rotate_left
                    · intro w'
                      go_simp
                      with_reducible rfl
                    rotate_left
                    · simp only [Act.put, List.setIfInBounds_toArray, List.set_cons_zero, List.set_cons_succ, i64_w, i32_w]
                      rfl
                    refine pure_ (i := 47) (N := some 66) (v := ?_) (a' := ?_) #[true, true, true, true, true, true, true, true, true, true, true, true, true, true, true, true, true, true, true, true, true, true, true, true, true, true, true, true, true, true, true, true, true, true, true, true, true, true, true, true, true, true, true, true, true, true, true, true, false, false, false, false, false, false, false, false, false, false, false, false, false, false, false] rfl rfl (any_of HT_.out (by kernel_rfl)) (fun _ _ _ h => h) (Or.inl ⟨by rfl, ?_⟩) ?_ ?_
                    rotate_left
                    · intro w'
                      go_simp
                      with_reducible rfl
                    rotate_left
                    · simp only [Act.put, List.setIfInBounds_toArray, List.set_cons_zero, List.set_cons_succ, i64_w, i32_w]
                      rfl
                    refine pure_ (i := 48) (N := some 67) (v := ?_) (a' := ?_) #[true, true, true, true, true, true, true, true, true, true, true, true, true, true, true, true, true, true, true, true, true, true, true, true, true, true, true, true, true, true, true, true, true, true, true, true, true, true, true, true, true, true, true, true, true, true, true, true, true, false, false, false, false, false, false, false, false, false, false, false, false, false, false] rfl rfl (any_of HT_.out (by kernel_rfl)) (fun _ _ _ h => h) (Or.inl ⟨by rfl, ?_⟩) ?_ ?_
                    rotate_left
                    · intro w'
                      go_simp
                      with_reducible rfl
                    rotate_left
                    · simp only [Act.put, List.setIfInBounds_toArray, List.set_cons_zero, List.set_cons_succ, i64_w, i32_w]
                      rfl
                    refine pure_ (i := 49) (N := some 68) (v := ?_) (a' := ?_) #[true, true, true, true, true, true, true, true, true, true, true, true, true, true, true, true, true, true, true, true, true, true, true, true, true, true, true, true, true, true, true, true, true, true, true, true, true, true, true, true, true, true, true, true, true, true, true, true, true, true, false, false, false, false, false, false, false, false, false, false, false, false, false] rfl rfl (any_of HT_.out (by kernel_rfl)) (fun _ _ _ h => h) (Or.inl ⟨by rfl, ?_⟩) ?_ ?_
                    rotate_left
                    · intro w'
                      go_simp
                      with_reducible rfl
                    rotate_left
                    · simp only [Act.put, List.setIfInBounds_toArray, List.set_cons_zero, List.set_cons_succ, i64_w, i32_w]
                      rfl
                    refine pure_ (i := 51) (N := some 70) (v := ?_) (a' := ?_) #[true, true, true, true, true, true, true, true, true, true, true, true, true, true, true, true, true, true, true, true, true, true, true, true, true, true, true, true, true, true, true, true, true, true, true, true, true, true, true, true, true, true, true, true, true, true, true, true, true, true, false, true, false, false, false, false, false, false, false, false, false, false, false] rfl rfl (any_of HT_.out (by kernel_rfl)) (fun _ _ _ h => h) (Or.inl ⟨by rfl, ?_⟩) ?_ ?_
                    rotate_left
                    · intro w'
                      go_simp
                      with_reducible rfl
                    rotate_left
                    · simp only [Act.put, List.setIfInBounds_toArray, List.set_cons_zero, List.set_cons_succ, i64_w, i32_w]
                      rfl
                    refine take_ (i := 50) (N := some 69) (v := ?_) (a' := ?_) #[true, true, true, true, true, true, true, true, true, true, true, true, true, true, true, true, true, true, true, true, true, true, true, true, true, true, true, true, true, true, true, true, true, true, true, true, true, true, true, true, true, true, true, true, true, true, true, true, true, true, true, true, false, false, false, false, false, false, false, false, false, false, false] rfl rfl (take_ofW HT_.out HW_.out (by kernel_rfl)) (fun _ _ _ h => h) (Or.inl ⟨by rfl, ?_⟩) hHeld ?_ ?_
                    rotate_left
                    · rintro w' ⟨s0, s1, s2, s3, s4, s5, s6, s7, s8⟩
                      go_simp
                      with_reducible rfl
                    rotate_left
                    · simp only [Act.put, List.setIfInBounds_toArray, List.set_cons_zero, List.set_cons_succ, i64_w, i32_w]
                      rfl
                    refine take_ (i := 52) (N := some 71) (v := ?_) (a' := ?_) #[true, true, true, true, true, true, true, true, true, true, true, true, true, true, true, true, true, true, true, true, true, true, true, true, true, true, true, true, true, true, true, true, true, true, true, true, true, true, true, true, true, true, true, true, true, true, true, true, true, true, true, true, true, false, false, false, false, false, false, false, false, false, false] rfl rfl (take_ofW HT_.out HW_.out (by kernel_rfl)) (fun _ _ _ h => h) (Or.inl ⟨by rfl, ?_⟩) hHeld ?_ ?_
                    rotate_left
                    · rintro w' ⟨s0, s1, s2, s3, s4, s5, s6, s7, s8⟩
                      go_simp
                      with_reducible rfl
                    rotate_left
                    · simp only [Act.put, List.setIfInBounds_toArray, List.set_cons_zero, List.set_cons_succ, i64_w, i32_w]
                      rfl
                    refine pure_ (i := 53) (N := some 72) (v := ?_) (a' := ?_) #[true, true, true, true, true, true, true, true, true, true, true, true, true, true, true, true, true, true, true, true, true, true, true, true, true, true, true, true, true, true, true, true, true, true, true, true, true, true, true, true, true, true, true, true, true, true, true, true, true, true, true, true, true, true, false, false, false, false, false, false, false, false, false] rfl rfl (any_of HT_.out (by kernel_rfl)) (fun _ _ _ h => h) (Or.inl ⟨by rfl, ?_⟩) ?_ ?_
                    rotate_left
                    · intro w'
                      go_simp
                      with_reducible rfl
                    rotate_left
                    · simp only [Act.put, List.setIfInBounds_toArray, List.set_cons_zero, List.set_cons_succ, i64_w, i32_w]
                      rfl
                    refine pure_ (i := 54) (N := some 73) (v := ?_) (a' := ?_) #[true, true, true, true, true, true, true, true, true, true, true, true, true, true, true, true, true, true, true, true, true, true, true, true, true, true, true, true, true, true, true, true, true, true, true, true, true, true, true, true, true, true, true, true, true, true, true, true, true, true, true, true, true, true, true, false, false, false, false, false, false, false, false] rfl rfl (any_of HT_.out (by kernel_rfl)) (fun _ _ _ h => h) (Or.inl ⟨by rfl, ?_⟩) ?_ ?_
                    rotate_left
                    · intro w'
                      go_simp
                      with_reducible rfl
                    rotate_left
                    · simp only [Act.put, List.setIfInBounds_toArray, List.set_cons_zero, List.set_cons_succ, i64_w, i32_w]
                      rfl
                    refine pure_ (i := 55) (N := some 74) (v := ?_) (a' := ?_) #[true, true, true, true, true, true, true, true, true, true, true, true, true, true, true, true, true, true, true, true, true, true, true, true, true, true, true, true, true, true, true, true, true, true, true, true, true, true, true, true, true, true, true, true, true, true, true, true, true, true, true, true, true, true, true, true, false, false, false, false, false, false, false] rfl rfl (any_of HT_.out (by kernel_rfl)) (fun _ _ _ h => h) (Or.inl ⟨by rfl, ?_⟩) ?_ ?_
                    rotate_left
                    · intro w'
                      go_simp
                      with_reducible rfl
                    rotate_left
                    · simp only [Act.put, List.setIfInBounds_toArray, List.set_cons_zero, List.set_cons_succ, i64_w, i32_w]
                      rfl
                    refine pure_ (i := 56) (N := some 75) (v := ?_) (a' := ?_) #[true, true, true, true, true, true, true, true, true, true, true, true, true, true, true, true, true, true, true, true, true, true, true, true, true, true, true, true, true, true, true, true, true, true, true, true, true, true, true, true, true, true, true, true, true, true, true, true, true, true, true, true, true, true, true, true, true, false, false, false, false, false, false] rfl rfl (any_of HT_.out (by kernel_rfl)) (fun _ _ _ h => h) (Or.inl ⟨by rfl, ?_⟩) ?_ ?_
                    rotate_left
                    · intro w'
                      go_simp
                      with_reducible rfl
                    rotate_left
                    · simp only [Act.put, List.setIfInBounds_toArray, List.set_cons_zero, List.set_cons_succ, i64_w, i32_w]
                      rfl
                    refine pure_ (i := 58) (N := some 77) (v := ?_) (a' := ?_) #[true, true, true, true, true, true, true, true, true, true, true, true, true, true, true, true, true, true, true, true, true, true, true, true, true, true, true, true, true, true, true, true, true, true, true, true, true, true, true, true, true, true, true, true, true, true, true, true, true, true, true, true, true, true, true, true, true, false, true, false, false, false, false] rfl rfl (any_of HT_.out (by kernel_rfl)) (fun _ _ _ h => h) (Or.inl ⟨by rfl, ?_⟩) ?_ ?_
                    rotate_left
                    · intro w'
                      go_simp
                      with_reducible rfl
                    rotate_left
                    · simp only [Act.put, List.setIfInBounds_toArray, List.set_cons_zero, List.set_cons_succ, i64_w, i32_w]
                      rfl
                    refine take_ (i := 57) (N := some 76) (v := ?_) (a' := ?_) #[true, true, true, true, true, true, true, true, true, true, true, true, true, true, true, true, true, true, true, true, true, true, true, true, true, true, true, true, true, true, true, true, true, true, true, true, true, true, true, true, true, true, true, true, true, true, true, true, true, true, true, true, true, true, true, true, true, true, true, false, false, false, false] rfl rfl (take_ofW HT_.out HW_.out (by kernel_rfl)) (fun _ _ _ h => h) (Or.inl ⟨by rfl, ?_⟩) hHeld ?_ ?_
                    rotate_left
                    · rintro w' ⟨s0, s1, s2, s3, s4, s5, s6, s7, s8⟩
                      go_simp
                      with_reducible rfl
                    rotate_left
                    · simp only [Act.put, List.setIfInBounds_toArray, List.set_cons_zero, List.set_cons_succ, i64_w, i32_w]
                      rfl
                    refine take_ (i := 59) (N := some 78) (v := ?_) (a' := ?_) #[true, true, true, true, true, true, true, true, true, true, true, true, true, true, true, true, true, true, true, true, true, true, true, true, true, true, true, true, true, true, true, true, true, true, true, true, true, true, true, true, true, true, true, true, true, true, true, true, true, true, true, true, true, true, true, true, true, true, true, true, false, false, false] rfl rfl (take_ofW HT_.out HW_.out (by kernel_rfl)) (fun _ _ _ h => h) (Or.inl ⟨by rfl, ?_⟩) hHeld ?_ ?_
                    rotate_left
                    · rintro w' ⟨s0, s1, s2, s3, s4, s5, s6, s7, s8⟩
                      go_simp
                      with_reducible rfl
                    rotate_left
                    · simp only [Act.put, List.setIfInBounds_toArray, List.set_cons_zero, List.set_cons_succ, i64_w, i32_w]
                      rfl
                    refine pure_ (i := 60) (N := some 79) (v := ?_) (a' := ?_) #[true, true, true, true, true, true, true, true, true, true, true, true, true, true, true, true, true, true, true, true, true, true, true, true, true, true, true, true, true, true, true, true, true, true, true, true, true, true, true, true, true, true, true, true, true, true, true, true, true, true, true, true, true, true, true, true, true, true, true, true, true, false, false] rfl rfl (any_of HT_.out (by kernel_rfl)) (fun _ _ _ h => h) (Or.inl ⟨by rfl, ?_⟩) ?_ ?_
                    rotate_left
                    · intro w'
                      go_simp
                      with_reducible rfl
                    rotate_left
                    · simp only [Act.put, List.setIfInBounds_toArray, List.set_cons_zero, List.set_cons_succ, i64_w, i32_w]
                      rfl
                    refine pure_ (i := 61) (N := some 80) (v := ?_) (a' := ?_) #[true, true, true, true, true, true, true, true, true, true, true, true, true, true, true, true, true, true, true, true, true, true, true, true, true, true, true, true, true, true, true, true, true, true, true, true, true, true, true, true, true, true, true, true, true, true, true, true, true, true, true, true, true, true, true, true, true, true, true, true, true, true, false] rfl rfl (any_of HT_.out (by kernel_rfl)) (fun _ _ _ h => h) (Or.inl ⟨by rfl, ?_⟩) ?_ ?_
                    rotate_left
                    · intro w'
                      go_simp
                      with_reducible rfl
                    rotate_left
                    · simp only [Act.put, List.setIfInBounds_toArray, List.set_cons_zero, List.set_cons_succ, i64_w, i32_w]
                      rfl
                    refine pure_ (i := 62) (N := some 6) (v := ?_) (a' := ?_) #[true, true, true, true, true, true, true, true, true, true, true, true, true, true, true, true, true, true, true, true, true, true, true, true, true, true, true, true, true, true, true, true, true, true, true, true, true, true, true, true, true, true, true, true, true, true, true, true, true, true, true, true, true, true, true, true, true, true, true, true, true, true, true] rfl rfl (any_of HT_.out (by kernel_rfl)) (fun _ _ _ h => h) (Or.inl ⟨by rfl, ?_⟩) ?_ ?_
                    rotate_left
                    · intro w'
                      go_simp
                      with_reducible rfl
                    rotate_left
                    · simp only [Act.put, List.setIfInBounds_toArray, List.set_cons_zero, List.set_cons_succ, i64_w, i32_w]
                      rfl
                    refine done_ (done_of HT_.out (by kernel_rfl)) ?_
                    try go_wp2
                    go_ret
                    exact ⟨by first | rfl | (simp [errW_none, errW_some] <;> rfl) | (simp [*, errW_none, errW_some] <;> rfl), by repeat (first | (with_reducible first | exact HB.out | apply below_alloc | apply pw_below_drewN | apply below_drew1 | refine below_set ?_ GE115.out | refine below_set ?_ GE122.out | refine below_set ?_ GE123.out) | exact HB.out)⟩
                  · rw [if_neg c183] at H
                    have c183b0 : (t117 == a0_1) = false := beq_eq_false_iff_ne.mpr c183
                    have c183b1 : (t117 != a0_1) = true := bne_iff_ne.mpr c183
                    exact absurd ((Option.some.inj H).trans hrA_.out) (by decide)
                · rw [if_neg c182] at H
                  have c182b0 : (t144 == t119 && (t145 == t120 && (t146 == t121))) = false := by simpa using c182
                  (try (have c182b1 : decide (t144 = t119 && (t145 == t120 && (t146 == t121))) = false := by simpa using c182))
                  (try (have c182b2 : (t144 == t119 && (t145 == t120 && (t146 == t121))) = false := by simpa using c182))
                  (try (have c182b3 : ¬ (t144 = t119 && (t145 == t120 && (t146 == t121))) := by simpa using c182))
                  clear c182
                  exact absurd ((Option.some.inj H).trans hrA_.out) (by decide)
              · rw [if_neg c180] at H
                have c180b0 : (t141 == t116 && (t142 == t117 && (t143 == t118))) = false := by simpa using c180
                (try (have c180b1 : decide (t141 = t116 && (t142 == t117 && (t143 == t118))) = false := by simpa using c180))
                (try (have c180b2 : (t141 == t116 && (t142 == t117 && (t143 == t118))) = false := by simpa using c180))
                (try (have c180b3 : ¬ (t141 = t116 && (t142 == t117 && (t143 == t118))) := by simpa using c180))
                clear c180
                exact absurd ((Option.some.inj H).trans hrA_.out) (by decide)
            · rw [if_neg c178] at H
              have c178b0 : (t139 == t140) = false := by simpa using c178
              (try (have c178b1 : decide (t139 = t140) = false := by simpa using c178))
              (try (have c178b2 : (t139 == t140) = false := by simpa using c178))
              (try (have c178b3 : ¬ (t139 = t140) := by simpa using c178))
              clear c178
              exact absurd ((Option.some.inj H).trans hrA_.out) (by decide)
          · rw [if_neg c175] at H
            have c175b0 : (t137 == t138) = false := by simpa using c175
            (try (have c175b1 : decide (t137 = t138) = false := by simpa using c175))
            (try (have c175b2 : (t137 == t138) = false := by simpa using c175))
            (try (have c175b3 : ¬ (t137 = t138) := by simpa using c175))
            clear c175
            exact absurd ((Option.some.inj H).trans hrA_.out) (by decide)
    · replace c9 := Bool.eq_false_iff.mpr c9
      subst c9
      have H1 : (some false) = some r := by rw [if_neg (show ¬ (false = true) by decide)] at H; exact H
      clear H
      have H := H1
      clear H1
      exact absurd ((Option.some.inj H).trans hrA_.out) (by decide)
  · replace c7 := Bool.eq_false_iff.mpr c7
    subst c7
    have H1 : (some false) = some r := by rw [if_neg (show ¬ (false = true) by decide)] at H; exact H
    clear H
    have H := H1
    clear H1
    exact absurd ((Option.some.inj H).trans hrA_.out) (by decide)
end Go.Proofs.YtgdbkgjnonodjaaDoor.PAttrsWith
