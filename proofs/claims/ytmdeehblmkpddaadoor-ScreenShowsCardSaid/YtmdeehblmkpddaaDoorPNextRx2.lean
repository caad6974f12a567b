-- Printed by a changed copy of the kit's print program that takes contracts proved by hand. Not trusted: Lean checks it.
import Derived.Test.YtmdeehblmkpddaaDoorPNextRx1
namespace Go.Proofs.YtmdeehblmkpddaaDoor.PNextR
open Go.RowKit Go.Proofs.YtmdeehblmkpddaaDoorW.PrintWords Go.Proofs.YtmdeehblmkpddaaDoorW.PrintLast Go.Proofs.YtmdeehblmkpddaaDoorW.PrintMore
attribute [local go_sem] max2_int min2_int max_two min_two max_three min_three max_four min_four   -- for this text's walks alone
set_option linter.unusedVariables false
set_option linter.unusedSimpArgs false

/-! ### whispererref09_Next: function 38 -/
mutual
def whispererref09_Next.j0 : Nat → List Int → Bool → Int → Int → Option (Int × Int × Int × Int)
 | 0, _, _, _, _ => none
 | k + 1, x0, x30, x104000, x104001 => if x30 = true then (some (x104000, x104001, 1, 0)) else (whispererref09_Next.l0 k x0 2 x104000 x104001)
def whispererref09_Next.j2 : Nat → List Int → Int → Int → Int → Option (Int × Int × Int × Int)
 | 0, _, _, _, _ => none
 | k + 1, x0, x6, x104000, x104001 => whispererref09_Next.l1 k x0 x6 x104000 x104001
def whispererref09_Next.j4 : Nat → List Int → Int → Int → Int → Option (Int × Int × Int × Int)
 | 0, _, _, _, _ => none
 | k + 1, x0, x6, x104000, x104001 => if x6 = (x0.length : Int) then (some (0, 0, x6, 7)) else (if 0 ≤ x6 then (if x6 < (x0.length : Int) then (if (rd x0 x6) < 64 then (some (x104000, x104001, x6, 0)) else (if (rd x0 x6) > 126 then (some (x104000, x104001, x6, 0)) else (if 1 ≤ (wrap64 (x6 + 1)) then (if (wrap64 (x6 + 1)) ≤ (x0.length : Int) then ((whispererref09_key.f k (strOfNums ((x0.take ((wrap64 (x6 + 1)) : Int).toNat).drop 1))).bind fun bt116 => (some (bt116.1, bt116.2, wrap64 (x6 + 1), 0))) else (none)) else (none)))) else (none)) else (none))
def whispererref09_Next.l1 : Nat → List Int → Int → Int → Int → Option (Int × Int × Int × Int)
 | 0, _, _, _, _ => none
 | k + 1, x0, x6, x104000, x104001 => if 1 < (x0.length : Int) then (if (rd x0 1) = 91 then (if x6 < (x0.length : Int) then (if x6 < 34 then (if 0 ≤ x6 then (if (rd x0 x6) ≥ 32 then (if (rd x0 x6) ≤ 47 then (whispererref09_Next.l1 k x0 (wrap64 (x6 + 1)) x104000 x104001) else (whispererref09_Next.j4 k x0 x6 x104000 x104001)) else (whispererref09_Next.j4 k x0 x6 x104000 x104001)) else (none)) else (whispererref09_Next.j4 k x0 x6 x104000 x104001)) else (whispererref09_Next.j4 k x0 x6 x104000 x104001)) else (whispererref09_Next.j4 k x0 x6 x104000 x104001)) else (none)
def whispererref09_Next.l0 : Nat → List Int → Int → Int → Int → Option (Int × Int × Int × Int)
 | 0, _, _, _, _ => none
 | k + 1, x0, x6, x104000, x104001 => if 1 < (x0.length : Int) then (if (rd x0 1) = 91 then (if x6 < (x0.length : Int) then (if x6 < 34 then (if 0 ≤ x6 then (if (rd x0 x6) ≥ 48 then (if (rd x0 x6) ≤ 63 then (whispererref09_Next.l0 k x0 (wrap64 (x6 + 1)) x104000 x104001) else (whispererref09_Next.j2 k x0 x6 x104000 x104001)) else (whispererref09_Next.j2 k x0 x6 x104000 x104001)) else (none)) else (whispererref09_Next.j2 k x0 x6 x104000 x104001)) else (whispererref09_Next.j2 k x0 x6 x104000 x104001)) else (whispererref09_Next.j2 k x0 x6 x104000 x104001)) else (none)
end
def whispererref09_Next.f (k : Nat) (l0 : List Int) : Option (Int × Int × Int × Int) := if (l0.length : Int) = 0 then (some (0, 0, 0, 6)) else (if 0 < (l0.length : Int) then (if (rd l0 0) = 27 then (if (l0.length : Int) = 1 then (some (0, 0, 1, 7)) else (if 1 < (l0.length : Int) then (if (rd l0 1) = 91 then (whispererref09_Next.j0 k l0 false 15 0) else (whispererref09_Next.j0 k l0 ((rd l0 1) != 79) 15 0)) else (none))) else (some (0, 0, 0, 8))) else (none))
theorem whispererref09_Next.mono_l : ∀ k, (∀ y0 y1 y2 y3, LeO (whispererref09_Next.j0 k y0 y1 y2 y3) (whispererref09_Next.j0 (k + 1) y0 y1 y2 y3)) ∧ (∀ y0 y1 y2 y3, LeO (whispererref09_Next.j2 k y0 y1 y2 y3) (whispererref09_Next.j2 (k + 1) y0 y1 y2 y3)) ∧ (∀ y0 y1 y2 y3, LeO (whispererref09_Next.j4 k y0 y1 y2 y3) (whispererref09_Next.j4 (k + 1) y0 y1 y2 y3)) ∧ (∀ y0 y1 y2 y3, LeO (whispererref09_Next.l1 k y0 y1 y2 y3) (whispererref09_Next.l1 (k + 1) y0 y1 y2 y3)) ∧ (∀ y0 y1 y2 y3, LeO (whispererref09_Next.l0 k y0 y1 y2 y3) (whispererref09_Next.l0 (k + 1) y0 y1 y2 y3))
 | 0 => ⟨fun _ _ _ _ r h => by simp [whispererref09_Next.j0] at h, fun _ _ _ _ r h => by simp [whispererref09_Next.j2] at h, fun _ _ _ _ r h => by simp [whispererref09_Next.j4] at h, fun _ _ _ _ r h => by simp [whispererref09_Next.l1] at h, fun _ _ _ _ r h => by simp [whispererref09_Next.l0] at h⟩
 | k + 1 => by
  obtain ⟨ih0, ih1, ih2, ih3, ih4⟩ := whispererref09_Next.mono_l k
  refine ⟨?_, ?_, ?_, ?_, ?_⟩
  ·intro y0 y1 y2 y3
   unfold whispererref09_Next.j0
   repeat' first
   | (with_reducible exact ih0 _ _ _ _)
   | (with_reducible exact ih1 _ _ _ _)
   | (with_reducible exact ih2 _ _ _ _)
   | (with_reducible exact ih3 _ _ _ _)
   | (with_reducible exact ih4 _ _ _ _)
   | (with_reducible exact whispererref09_key.mono _ _)
   | (with_reducible exact LeO.refl _)
   | (with_reducible exact LeO.none _)
   | (with_reducible refine LeO.ite ?_ ?_)
   | (with_reducible refine LeO.bind ?_ (fun _ => ?_))
   | exact ih0 _ _ _ _
   | exact ih1 _ _ _ _
   | exact ih2 _ _ _ _
   | exact ih3 _ _ _ _
   | exact ih4 _ _ _ _
   | exact whispererref09_key.mono _ _
   | exact LeO.none _
   | refine LeO.ite ?_ ?_
   | refine LeO.bind ?_ (fun _ => ?_)
  ·intro y0 y1 y2 y3
   unfold whispererref09_Next.j2
   repeat' first
   | (with_reducible exact ih0 _ _ _ _)
   | (with_reducible exact ih1 _ _ _ _)
   | (with_reducible exact ih2 _ _ _ _)
   | (with_reducible exact ih3 _ _ _ _)
   | (with_reducible exact ih4 _ _ _ _)
   | (with_reducible exact whispererref09_key.mono _ _)
   | (with_reducible exact LeO.refl _)
   | (with_reducible exact LeO.none _)
   | (with_reducible refine LeO.ite ?_ ?_)
   | (with_reducible refine LeO.bind ?_ (fun _ => ?_))
   | exact ih0 _ _ _ _
   | exact ih1 _ _ _ _
   | exact ih2 _ _ _ _
   | exact ih3 _ _ _ _
   | exact ih4 _ _ _ _
   | exact whispererref09_key.mono _ _
   | exact LeO.none _
   | refine LeO.ite ?_ ?_
   | refine LeO.bind ?_ (fun _ => ?_)
  ·intro y0 y1 y2 y3
   unfold whispererref09_Next.j4
   repeat' first
   | (with_reducible exact ih0 _ _ _ _)
   | (with_reducible exact ih1 _ _ _ _)
   | (with_reducible exact ih2 _ _ _ _)
   | (with_reducible exact ih3 _ _ _ _)
   | (with_reducible exact ih4 _ _ _ _)
   | (with_reducible exact whispererref09_key.mono _ _)
   | (with_reducible exact LeO.refl _)
   | (with_reducible exact LeO.none _)
   | (with_reducible refine LeO.ite ?_ ?_)
   | (with_reducible refine LeO.bind ?_ (fun _ => ?_))
   | exact ih0 _ _ _ _
   | exact ih1 _ _ _ _
   | exact ih2 _ _ _ _
   | exact ih3 _ _ _ _
   | exact ih4 _ _ _ _
   | exact whispererref09_key.mono _ _
   | exact LeO.none _
   | refine LeO.ite ?_ ?_
   | refine LeO.bind ?_ (fun _ => ?_)
  ·intro y0 y1 y2 y3
   unfold whispererref09_Next.l1
   repeat' first
   | (with_reducible exact ih0 _ _ _ _)
   | (with_reducible exact ih1 _ _ _ _)
   | (with_reducible exact ih2 _ _ _ _)
   | (with_reducible exact ih3 _ _ _ _)
   | (with_reducible exact ih4 _ _ _ _)
   | (with_reducible exact whispererref09_key.mono _ _)
   | (with_reducible exact LeO.refl _)
   | (with_reducible exact LeO.none _)
   | (with_reducible refine LeO.ite ?_ ?_)
   | (with_reducible refine LeO.bind ?_ (fun _ => ?_))
   | exact ih0 _ _ _ _
   | exact ih1 _ _ _ _
   | exact ih2 _ _ _ _
   | exact ih3 _ _ _ _
   | exact ih4 _ _ _ _
   | exact whispererref09_key.mono _ _
   | exact LeO.none _
   | refine LeO.ite ?_ ?_
   | refine LeO.bind ?_ (fun _ => ?_)
  ·intro y0 y1 y2 y3
   unfold whispererref09_Next.l0
   repeat' first
   | (with_reducible exact ih0 _ _ _ _)
   | (with_reducible exact ih1 _ _ _ _)
   | (with_reducible exact ih2 _ _ _ _)
   | (with_reducible exact ih3 _ _ _ _)
   | (with_reducible exact ih4 _ _ _ _)
   | (with_reducible exact whispererref09_key.mono _ _)
   | (with_reducible exact LeO.refl _)
   | (with_reducible exact LeO.none _)
   | (with_reducible refine LeO.ite ?_ ?_)
   | (with_reducible refine LeO.bind ?_ (fun _ => ?_))
   | exact ih0 _ _ _ _
   | exact ih1 _ _ _ _
   | exact ih2 _ _ _ _
   | exact ih3 _ _ _ _
   | exact ih4 _ _ _ _
   | exact whispererref09_key.mono _ _
   | exact LeO.none _
   | refine LeO.ite ?_ ?_
   | refine LeO.bind ?_ (fun _ => ?_)
theorem whispererref09_Next.mono : ∀ a0 k, LeO (whispererref09_Next.f k a0) (whispererref09_Next.f (k + 1) a0) := by
 intro a0 k
 obtain ⟨ih0, ih1, ih2, ih3, ih4⟩ := whispererref09_Next.mono_l k
 unfold whispererref09_Next.f
 repeat' first
   | (with_reducible exact ih0 _ _ _ _)
   | (with_reducible exact ih1 _ _ _ _)
   | (with_reducible exact ih2 _ _ _ _)
   | (with_reducible exact ih3 _ _ _ _)
   | (with_reducible exact ih4 _ _ _ _)
   | (with_reducible exact whispererref09_key.mono _ _)
   | (with_reducible exact LeO.refl _)
   | (with_reducible exact LeO.none _)
   | (with_reducible refine LeO.ite ?_ ?_)
   | (with_reducible refine LeO.bind ?_ (fun _ => ?_))
   | exact ih0 _ _ _ _
   | exact ih1 _ _ _ _
   | exact ih2 _ _ _ _
   | exact ih3 _ _ _ _
   | exact ih4 _ _ _ _
   | exact whispererref09_key.mono _ _
   | exact LeO.none _
   | refine LeO.ite ?_ ?_
   | refine LeO.bind ?_ (fun _ => ?_)
set_option maxHeartbeats 8000000 in
set_option maxRecDepth 100000 in
theorem whispererref09_Next.calls (k : Nat) (A0 : Option Addr) (c0 : Nat) (l0 : List Int) (r1 : Int) (r2 : Int) (r3 : Int) (r4 : Int) (w : World) (hr0 : Kd.C (Kd.int .u8) w A0 l0.length l0) (hc0 : l0.length ≤ c0) (h : whispererref09_Next.f k l0 = some (r1, r2, r3, r4)) :
  Calls Tryd.prog 38 #[.slice A0 l0.length c0] w fun e w' => e = .returned (.tuple #[.agg #[.int .i64 r1, .int .i64 r2], .int .i64 r3, .int .i64 r4]) ∧ Below w.heap.size w w' := by
 have hu71 := Tryd.underlying71
 have HR0 := Aside0.mk hr0
 have HC0 := Aside0.mk hc0
 clear hr0 hc0
 have HB := Aside0.mk (Below.refl w.heap.size w)
 have H : (if (l0.length : Int) = 0 then (some (0, 0, 0, 6)) else (if 0 < (l0.length : Int) then (if (rd l0 0) = 27 then (if (l0.length : Int) = 1 then (some (0, 0, 1, 7)) else (if 1 < (l0.length : Int) then (if (rd l0 1) = 91 then (whispererref09_Next.j0 k l0 false 15 0) else (whispererref09_Next.j0 k l0 ((rd l0 1) != 79) 15 0)) else (none))) else (some (0, 0, 0, 8))) else (none))) = some (r1, r2, r3, r4) := h
 clear h
 by_cases c2 : (l0.length : Int) = 0
 ·rw [if_pos c2] at H
  have c2b0 : ((l0.length : Int) == 0) = true := beq_iff_eq.mpr c2
  have c2b1 : ((l0.length : Int) != 0) = false := bne_eq_false_iff_eq.mpr c2
  clear c2
  simp only [Option.some.injEq, Prod.mk.injEq] at H
  obtain ⟨rfl, rfl, rfl, rfl⟩ := H
  go_enter Tryd.func38, Tryd.ntmps38
  go_wp2_with (first | ((with_reducible refine gate_dst (N := 2) rfl ?_); (try (refine gate_guard (by rfl) ?_; dsimp only)); refine box_event ?hg (N := 2) ?hd (cs := #[.int .i64 0, .int .i64 0]) (t := 71) ?hr ?_; (case hd => rfl); (case hg => rfl); (case hr => first | (go_simp; done) | (go_simp; rfl) | (go_simp; congr <;> exact (Hand.or128 _).symm)); intro gb102 hg w3 hbox hb; have n0_ := Aside0.mk (below_step (by repeat (first | (with_reducible first | exact HB.out | apply below_alloc | apply pw_below_drewN | apply below_drew1) | exact HB.out)) hb); have n1_ := Aside0.mk (hbox); have n2_ := Aside0.mk ((by rw [hg]; exact (below_size (by repeat (first | (with_reducible first | exact HB.out | apply below_alloc | apply pw_below_drewN | apply below_drew1) | exact HB.out))) : w.heap.size ≤ gb102)); have n3_ := Aside0.mk ((by rw [hg]; exact (below_size (by repeat (first | (with_reducible first | exact HB.out | apply below_alloc | apply pw_below_drewN | apply below_drew1) | exact HB.out))) : w.heap.size ≤ gb102)); clear HB; have HB := n0_; have BK102 := n1_; have GW102 := n2_; have GE102 := n3_; clear n0_ n1_ n2_ n3_; clear hb hbox hg) | ((with_reducible refine gate_dst (N := 5) rfl ?_); (try (refine gate_guard (by rfl) ?_; dsimp only)); refine box_event ?hg (N := 5) ?hd (cs := #[.int .i64 0, .int .i64 0]) (t := 71) ?hr ?_; (case hd => rfl); (case hg => rfl); (case hr => first | (go_simp; done) | (go_simp; rfl) | (go_simp; congr <;> exact (Hand.or128 _).symm)); intro gb103 hg w4 hbox hb; have n0_ := Aside0.mk (blk_below (g := gb102) (o := .cells #[.int .i64 0, .int .i64 0] 71 (0, 0)) (by (with_reducible repeat (first | refine blk_drewN ?_ _ | refine blk_drew ?_ | refine blk_alloc ?_ _)); exact BK102.out) hb); have n1_ := Aside0.mk (below_step (by repeat (first | (with_reducible first | exact HB.out | apply below_alloc | apply pw_below_drewN | apply below_drew1 | refine below_set ?_ GE102.out) | exact HB.out)) hb); have n2_ := Aside0.mk (hbox); have n3_ := Aside0.mk ((by rw [hg]; exact (below_size (by repeat (first | (with_reducible first | exact HB.out | apply below_alloc | apply pw_below_drewN | apply below_drew1 | refine below_set ?_ GE102.out) | exact HB.out))) : w.heap.size ≤ gb103)); have n4_ := Aside0.mk ((by rw [hg]; exact (below_size (by repeat (first | (with_reducible first | exact HB.out | apply below_alloc | apply pw_below_drewN | apply below_drew1 | refine below_set ?_ GE102.out) | exact HB.out))) : w.heap.size ≤ gb103)); have n5_ := Aside0.mk ((by rw [hg]; exact Nat.ne_of_lt (blk_lt (g := gb102) (o := .cells #[.int .i64 0, .int .i64 0] 71 (0, 0)) (by (with_reducible repeat (first | refine blk_drewN ?_ _ | refine blk_drew ?_ | refine blk_alloc ?_ _)); exact BK102.out)) : gb102 ≠ gb103)); have n6_ := Aside0.mk ((by rw [hg]; exact Nat.ne_of_gt (blk_lt (g := gb102) (o := .cells #[.int .i64 0, .int .i64 0] 71 (0, 0)) (by (with_reducible repeat (first | refine blk_drewN ?_ _ | refine blk_drew ?_ | refine blk_alloc ?_ _)); exact BK102.out)) : gb103 ≠ gb102)); clear BK102; clear HB; have BK102 := n0_; have HB := n1_; have BK103 := n2_; have GW103 := n3_; have GE103 := n4_; have NB102_103 := n5_; have NB103_102 := n6_; clear n0_ n1_ n2_ n3_ n4_ n5_ n6_; clear hb hbox hg; have hnb5 := NB103_102.out; have hnc5 := NB102_103.out; have hcz6_0 : w4.cell? ⟨gb103, 0, none⟩ = some (.int .i64 0) := (blk_cell BK103.out 0).trans rfl; have hcz6_1 : w4.cell? ⟨gb103, 1, none⟩ = some (.int .i64 0) := (blk_cell BK103.out 1).trans rfl; have hfz6_0 := blk_frozen BK103.out 0; have hfz6_1 := blk_frozen BK103.out 1; have hcz7_0 : w4.cell? ⟨gb102, 0, none⟩ = some (.int .i64 0) := (blk_cell BK102.out 0).trans rfl; have hcz7_1 : w4.cell? ⟨gb102, 1, none⟩ = some (.int .i64 0) := (blk_cell BK102.out 1).trans rfl; have hfz7_0 := blk_frozen BK102.out 0; have hfz7_1 := blk_frozen BK102.out 1))
  refine bodyPost_ret (results_ctt rfl _ _ gb102 71 #[.int .i64 0, .int .i64 0] (0, 0) _ rfl (by (with_reducible repeat (first | refine blk_drewN ?_ _ | refine blk_drew ?_ | refine blk_alloc ?_ _)); refine blk_put (cs := #[.int .i64 0, .int .i64 0]) ?_ 1 _ rfl; (with_reducible repeat (first | refine blk_drewN ?_ _ | refine blk_drew ?_ | refine blk_alloc ?_ _)); refine blk_put (cs := #[.int .i64 0, .int .i64 0]) ?_ 0 _ rfl; (with_reducible repeat (first | refine blk_drewN ?_ _ | refine blk_drew ?_ | refine blk_alloc ?_ _)); refine blk_far ?_ NB102_103.out _; (with_reducible repeat (first | refine blk_drewN ?_ _ | refine blk_drew ?_ | refine blk_alloc ?_ _)); refine blk_far ?_ NB102_103.out _; (with_reducible repeat (first | refine blk_drewN ?_ _ | refine blk_drew ?_ | refine blk_alloc ?_ _)); exact BK102.out) Tryd.underlying71 rfl (by kernel_rfl)) rfl ?_
  exact ⟨by first | rfl | (simp [errW_none, errW_some] <;> rfl) | (simp [*, errW_none, errW_some] <;> rfl), by repeat (first | (with_reducible first | exact HB.out | apply below_alloc | apply pw_below_drewN | apply below_drew1 | refine below_set ?_ GE102.out | refine below_set ?_ GE103.out) | exact HB.out)⟩
 ·rw [if_neg c2] at H
  have c2b0 : ((l0.length : Int) == 0) = false := beq_eq_false_iff_ne.mpr c2
  have c2b1 : ((l0.length : Int) != 0) = true := bne_iff_ne.mpr c2
  have c2b2 : ¬ (l0 = []) := fun h_ => c2 (by rw [h_]; rfl)
  by_cases c8 : 0 < (l0.length : Int)
  ·rw [if_pos c8] at H
   have c8b0 : decide (0 < (l0.length : Int)) = true := decide_eq_true c8
   have c8b1 : decide (0 < l0.length) = true := decide_eq_true (by omega)
   clear c8
   by_cases c9 : (rd l0 0) = 27
   ·rw [if_pos c9] at H
    have c9b0 : ((rd l0 0) == 27) = true := beq_iff_eq.mpr c9
    have c9b1 : ((rd l0 0) != 27) = false := bne_eq_false_iff_eq.mpr c9
    clear c9
    by_cases c10 : (l0.length : Int) = 1
    ·rw [if_pos c10] at H
     have c10b0 : ((l0.length : Int) == 1) = true := beq_iff_eq.mpr c10
     have c10b1 : ((l0.length : Int) != 1) = false := bne_eq_false_iff_eq.mpr c10
     clear c10
     simp only [Option.some.injEq, Prod.mk.injEq] at H
     obtain ⟨rfl, rfl, rfl, rfl⟩ := H
     go_enter Tryd.func38, Tryd.ntmps38
     go_wp2_with (first | ((with_reducible refine gate_dst (N := 2) rfl ?_); (try (refine gate_guard (by rfl) ?_; dsimp only)); refine box_event ?hg (N := 2) ?hd (cs := #[.int .i64 0, .int .i64 0]) (t := 71) ?hr ?_; (case hd => rfl); (case hg => rfl); (case hr => first | (go_simp; done) | (go_simp; rfl) | (go_simp; congr <;> exact (Hand.or128 _).symm)); intro gb102 hg w11 hbox hb; have n0_ := Aside0.mk (below_step (by repeat (first | (with_reducible first | exact HB.out | apply below_alloc | apply pw_below_drewN | apply below_drew1) | exact HB.out)) hb); have n1_ := Aside0.mk (hbox); have n2_ := Aside0.mk ((by rw [hg]; exact (below_size (by repeat (first | (with_reducible first | exact HB.out | apply below_alloc | apply pw_below_drewN | apply below_drew1) | exact HB.out))) : w.heap.size ≤ gb102)); have n3_ := Aside0.mk ((by rw [hg]; exact (below_size (by repeat (first | (with_reducible first | exact HB.out | apply below_alloc | apply pw_below_drewN | apply below_drew1) | exact HB.out))) : w.heap.size ≤ gb102)); clear HB; have HB := n0_; have BK102 := n1_; have GW102 := n2_; have GE102 := n3_; clear n0_ n1_ n2_ n3_; clear hb hbox hg) | ((with_reducible refine gate_dst (N := 5) rfl ?_); (try (refine gate_guard (by rfl) ?_; dsimp only)); refine box_event ?hg (N := 5) ?hd (cs := #[.int .i64 0, .int .i64 0]) (t := 71) ?hr ?_; (case hd => rfl); (case hg => rfl); (case hr => first | (go_simp; done) | (go_simp; rfl) | (go_simp; congr <;> exact (Hand.or128 _).symm)); intro gb103 hg w12 hbox hb; have n0_ := Aside0.mk (blk_below (g := gb102) (o := .cells #[.int .i64 0, .int .i64 0] 71 (0, 0)) (by (with_reducible repeat (first | refine blk_drewN ?_ _ | refine blk_drew ?_ | refine blk_alloc ?_ _)); exact BK102.out) hb); have n1_ := Aside0.mk (below_step (by repeat (first | (with_reducible first | exact HB.out | apply below_alloc | apply pw_below_drewN | apply below_drew1 | refine below_set ?_ GE102.out) | exact HB.out)) hb); have n2_ := Aside0.mk (hbox); have n3_ := Aside0.mk ((by rw [hg]; exact (below_size (by repeat (first | (with_reducible first | exact HB.out | apply below_alloc | apply pw_below_drewN | apply below_drew1 | refine below_set ?_ GE102.out) | exact HB.out))) : w.heap.size ≤ gb103)); have n4_ := Aside0.mk ((by rw [hg]; exact (below_size (by repeat (first | (with_reducible first | exact HB.out | apply below_alloc | apply pw_below_drewN | apply below_drew1 | refine below_set ?_ GE102.out) | exact HB.out))) : w.heap.size ≤ gb103)); have n5_ := Aside0.mk ((by rw [hg]; exact Nat.ne_of_lt (blk_lt (g := gb102) (o := .cells #[.int .i64 0, .int .i64 0] 71 (0, 0)) (by (with_reducible repeat (first | refine blk_drewN ?_ _ | refine blk_drew ?_ | refine blk_alloc ?_ _)); exact BK102.out)) : gb102 ≠ gb103)); have n6_ := Aside0.mk ((by rw [hg]; exact Nat.ne_of_gt (blk_lt (g := gb102) (o := .cells #[.int .i64 0, .int .i64 0] 71 (0, 0)) (by (with_reducible repeat (first | refine blk_drewN ?_ _ | refine blk_drew ?_ | refine blk_alloc ?_ _)); exact BK102.out)) : gb103 ≠ gb102)); clear BK102; clear HB; have BK102 := n0_; have HB := n1_; have BK103 := n2_; have GW103 := n3_; have GE103 := n4_; have NB102_103 := n5_; have NB103_102 := n6_; clear n0_ n1_ n2_ n3_ n4_ n5_ n6_; clear hb hbox hg; have hnb13 := NB103_102.out; have hnc13 := NB102_103.out; have hcz14_0 : w12.cell? ⟨gb103, 0, none⟩ = some (.int .i64 0) := (blk_cell BK103.out 0).trans rfl; have hcz14_1 : w12.cell? ⟨gb103, 1, none⟩ = some (.int .i64 0) := (blk_cell BK103.out 1).trans rfl; have hfz14_0 := blk_frozen BK103.out 0; have hfz14_1 := blk_frozen BK103.out 1; have p104 : 0 ≤ (0 : Int) := (by omega); have q104 : 0 < (l0.length : Int) := of_decide_eq_true (by first | (with_reducible assumption) | assumption); obtain ⟨ad104, e104, hx104_0⟩ := Kd.at_int HR0.out 0 p104 q104; cases e104; have qi104 : (0 < l0.length) = True := eq_true (by omega); (try rw [show ((0 : Int)).toNat = 0 from rfl] at hx104_0); (try rw [Addr.add_zero'] at hx104_0); have hn104_0 : ad104.block ≠ gb103 := Nat.ne_of_lt (Nat.lt_of_lt_of_le (by have := World.block_lt_of_cell? _ _ hx104_0; first | rwa [add_block] at this | exact this) GW103.out); have hn104_1 : ad104.block ≠ gb103 := Nat.ne_of_lt (Nat.lt_of_lt_of_le (by have := World.block_lt_of_cell? _ _ hx104_0; first | rwa [add_block] at this | exact this) GW103.out); replace hx104_0 := (HB.out.cell (World.block_lt_of_cell? w _ hx104_0)).trans hx104_0; replace hx104_0 := (cell_far (p := ⟨gb103, 0, none⟩) (by first | (rw [add_block]; exact hn104_0) | (show (Addr.add _ _).block ≠ _; rw [add_block]; exact hn104_0) | exact hn104_0) (.int .i64 15)).trans hx104_0; replace hx104_0 := (cell_far (p := ⟨gb103, 1, none⟩) (by first | (rw [add_block]; exact hn104_1) | (show (Addr.add _ _).block ≠ _; rw [add_block]; exact hn104_1) | exact hn104_1) (.int .i64 0)).trans hx104_0; clear hn104_0; clear hn104_1; replace p104 := eq_true p104; replace q104 := eq_true q104; have hcz15_0 : w12.cell? ⟨gb102, 0, none⟩ = some (.int .i64 0) := (blk_cell BK102.out 0).trans rfl; have hcz15_1 : w12.cell? ⟨gb102, 1, none⟩ = some (.int .i64 0) := (blk_cell BK102.out 1).trans rfl; have hfz15_0 := blk_frozen BK102.out 0; have hfz15_1 := blk_frozen BK102.out 1))
     refine bodyPost_ret (results_ctt rfl _ _ gb102 71 #[.int .i64 0, .int .i64 0] (0, 0) _ rfl (by (with_reducible repeat (first | refine blk_drewN ?_ _ | refine blk_drew ?_ | refine blk_alloc ?_ _)); refine blk_put (cs := #[.int .i64 0, .int .i64 0]) ?_ 1 _ rfl; (with_reducible repeat (first | refine blk_drewN ?_ _ | refine blk_drew ?_ | refine blk_alloc ?_ _)); refine blk_put (cs := #[.int .i64 0, .int .i64 0]) ?_ 0 _ rfl; (with_reducible repeat (first | refine blk_drewN ?_ _ | refine blk_drew ?_ | refine blk_alloc ?_ _)); refine blk_far ?_ NB102_103.out _; (with_reducible repeat (first | refine blk_drewN ?_ _ | refine blk_drew ?_ | refine blk_alloc ?_ _)); refine blk_far ?_ NB102_103.out _; (with_reducible repeat (first | refine blk_drewN ?_ _ | refine blk_drew ?_ | refine blk_alloc ?_ _)); exact BK102.out) Tryd.underlying71 rfl (by kernel_rfl)) rfl ?_
     exact ⟨by first | rfl | (simp [errW_none, errW_some] <;> rfl) | (simp [*, errW_none, errW_some] <;> rfl), by repeat (first | (with_reducible first | exact HB.out | apply below_alloc | apply pw_below_drewN | apply below_drew1 | refine below_set ?_ GE102.out | refine below_set ?_ GE103.out) | exact HB.out)⟩
    ·rw [if_neg c10] at H
     have c10b0 : ((l0.length : Int) == 1) = false := beq_eq_false_iff_ne.mpr c10
     have c10b1 : ((l0.length : Int) != 1) = true := bne_iff_ne.mpr c10
     have HC16 := Aside0.mk H
     clear H
     go_enter Tryd.func38, Tryd.ntmps38
     go_upto_region 8 with (first | ((with_reducible refine gate_dst (N := 2) rfl ?_); (try (refine gate_guard (by rfl) ?_; dsimp only)); refine box_event ?hg (N := 2) ?hd (cs := #[.int .i64 0, .int .i64 0]) (t := 71) ?hr ?_; (case hd => rfl); (case hg => rfl); (case hr => first | (go_simp; done) | (go_simp; rfl) | (go_simp; congr <;> exact (Hand.or128 _).symm)); intro gb102 hg w17 hbox hb; have n0_ := Aside0.mk (below_step (by repeat (first | (with_reducible first | exact HB.out | apply below_alloc | apply pw_below_drewN | apply below_drew1) | exact HB.out)) hb); have n1_ := Aside0.mk (hbox); have n2_ := Aside0.mk ((by rw [hg]; exact (below_size (by repeat (first | (with_reducible first | exact HB.out | apply below_alloc | apply pw_below_drewN | apply below_drew1) | exact HB.out))) : w.heap.size ≤ gb102)); have n3_ := Aside0.mk ((by rw [hg]; exact (below_size (by repeat (first | (with_reducible first | exact HB.out | apply below_alloc | apply pw_below_drewN | apply below_drew1) | exact HB.out))) : w.heap.size ≤ gb102)); clear HB; have HB := n0_; have BK102 := n1_; have GW102 := n2_; have GE102 := n3_; clear n0_ n1_ n2_ n3_; clear hb hbox hg) | ((with_reducible refine gate_dst (N := 5) rfl ?_); (try (refine gate_guard (by rfl) ?_; dsimp only)); refine box_event ?hg (N := 5) ?hd (cs := #[.int .i64 0, .int .i64 0]) (t := 71) ?hr ?_; (case hd => rfl); (case hg => rfl); (case hr => first | (go_simp; done) | (go_simp; rfl) | (go_simp; congr <;> exact (Hand.or128 _).symm)); intro gb103 hg w18 hbox hb; have n0_ := Aside0.mk (blk_below (g := gb102) (o := .cells #[.int .i64 0, .int .i64 0] 71 (0, 0)) (by (with_reducible repeat (first | refine blk_drewN ?_ _ | refine blk_drew ?_ | refine blk_alloc ?_ _)); exact BK102.out) hb); have n1_ := Aside0.mk (below_step (by repeat (first | (with_reducible first | exact HB.out | apply below_alloc | apply pw_below_drewN | apply below_drew1 | refine below_set ?_ GE102.out) | exact HB.out)) hb); have n2_ := Aside0.mk (hbox); have n3_ := Aside0.mk ((by rw [hg]; exact (below_size (by repeat (first | (with_reducible first | exact HB.out | apply below_alloc | apply pw_below_drewN | apply below_drew1 | refine below_set ?_ GE102.out) | exact HB.out))) : w.heap.size ≤ gb103)); have n4_ := Aside0.mk ((by rw [hg]; exact (below_size (by repeat (first | (with_reducible first | exact HB.out | apply below_alloc | apply pw_below_drewN | apply below_drew1 | refine below_set ?_ GE102.out) | exact HB.out))) : w.heap.size ≤ gb103)); have n5_ := Aside0.mk ((by rw [hg]; exact Nat.ne_of_lt (blk_lt (g := gb102) (o := .cells #[.int .i64 0, .int .i64 0] 71 (0, 0)) (by (with_reducible repeat (first | refine blk_drewN ?_ _ | refine blk_drew ?_ | refine blk_alloc ?_ _)); exact BK102.out)) : gb102 ≠ gb103)); have n6_ := Aside0.mk ((by rw [hg]; exact Nat.ne_of_gt (blk_lt (g := gb102) (o := .cells #[.int .i64 0, .int .i64 0] 71 (0, 0)) (by (with_reducible repeat (first | refine blk_drewN ?_ _ | refine blk_drew ?_ | refine blk_alloc ?_ _)); exact BK102.out)) : gb103 ≠ gb102)); clear BK102; clear HB; have BK102 := n0_; have HB := n1_; have BK103 := n2_; have GW103 := n3_; have GE103 := n4_; have NB102_103 := n5_; have NB103_102 := n6_; clear n0_ n1_ n2_ n3_ n4_ n5_ n6_; clear hb hbox hg; have hnb19 := NB103_102.out; have hnc19 := NB102_103.out; have hcz20_0 : w18.cell? ⟨gb103, 0, none⟩ = some (.int .i64 0) := (blk_cell BK103.out 0).trans rfl; have hcz20_1 : w18.cell? ⟨gb103, 1, none⟩ = some (.int .i64 0) := (blk_cell BK103.out 1).trans rfl; have hfz20_0 := blk_frozen BK103.out 0; have hfz20_1 := blk_frozen BK103.out 1; have p104 : 0 ≤ (0 : Int) := (by omega); have q104 : 0 < (l0.length : Int) := of_decide_eq_true (by first | (with_reducible assumption) | assumption); obtain ⟨ad104, e104, hx104_0⟩ := Kd.at_int HR0.out 0 p104 q104; cases e104; have qi104 : (0 < l0.length) = True := eq_true (by omega); (try rw [show ((0 : Int)).toNat = 0 from rfl] at hx104_0); (try rw [Addr.add_zero'] at hx104_0); have hn104_0 : ad104.block ≠ gb103 := Nat.ne_of_lt (Nat.lt_of_lt_of_le (by have := World.block_lt_of_cell? _ _ hx104_0; first | rwa [add_block] at this | exact this) GW103.out); have hn104_1 : ad104.block ≠ gb103 := Nat.ne_of_lt (Nat.lt_of_lt_of_le (by have := World.block_lt_of_cell? _ _ hx104_0; first | rwa [add_block] at this | exact this) GW103.out); replace hx104_0 := (HB.out.cell (World.block_lt_of_cell? w _ hx104_0)).trans hx104_0; replace hx104_0 := (cell_far (p := ⟨gb103, 0, none⟩) (by first | (rw [add_block]; exact hn104_0) | (show (Addr.add _ _).block ≠ _; rw [add_block]; exact hn104_0) | exact hn104_0) (.int .i64 15)).trans hx104_0; replace hx104_0 := (cell_far (p := ⟨gb103, 1, none⟩) (by first | (rw [add_block]; exact hn104_1) | (show (Addr.add _ _).block ≠ _; rw [add_block]; exact hn104_1) | exact hn104_1) (.int .i64 0)).trans hx104_0; clear hn104_0; clear hn104_1; replace p104 := eq_true p104; replace q104 := eq_true q104))
     (try simp only [Act.put, List.setIfInBounds_toArray, List.set_cons_zero, List.set_cons_succ])
     go_cut [30] (fun v30 wc => ∃ (kq : Nat) (x30_15 : Bool), v30 = .bool x30_15 ∧ Aside0 (whispererref09_Next.j0 kq l0 x30_15 15 0 = some (r1, r2, r3, r4)) ∧ Aside0 (kq ≤ k) ∧ Aside0 (wc.heap[gb102]? = some (.cells #[.int .i64 0, .int .i64 0] 71 (0, 0))) ∧ Aside0 (wc.heap[gb103]? = some (.cells #[.int .i64 15, .int .i64 0] 71 (0, 0))) ∧ Aside0 (Below w.heap.size w wc))
     case first =>
      have H := HC16.out
      clear HC16
      by_cases c21 : 1 < (l0.length : Int)
      ·rw [if_pos c21] at H
       have c21b0 : decide (1 < (l0.length : Int)) = true := decide_eq_true c21
       have c21b1 : decide (1 < l0.length) = true := decide_eq_true (by omega)
       clear c21
       (first | rw [c21b0] | (simp only [i64_w, i32_w]; rw [c21b0]) | skip)
       by_cases c22 : (rd l0 1) = 91
       ·rw [if_pos c22] at H
        have c22b0 : ((rd l0 1) == 91) = true := beq_iff_eq.mpr c22
        have c22b1 : ((rd l0 1) != 91) = false := bne_eq_false_iff_eq.mpr c22
        clear c22
        have H' := Aside0.mk H
        clear H
        have p105 : 0 ≤ (1 : Int) := (by omega)
        have q105 : 1 < (l0.length : Int) := of_decide_eq_true (by first | (with_reducible assumption) | assumption)
        obtain ⟨ad105, e105, hx105_0⟩ := Kd.at_int HR0.out 1 p105 q105
        obtain rfl : ad104 = ad105 := (by injection e105)
        (try simp only [show (1 : Int).toNat = 1 from rfl, Nat.reduceMul, Nat.reduceEqDiff, Go.Addr.add, ↓reduceIte] at hx105_0)
        have qi105 : (1 < l0.length) = True := eq_true (by omega)
        (try rw [show ((1 : Int)).toNat = 1 from rfl] at hx105_0)
        have hn105_0 : ad104.block ≠ gb103 := Nat.ne_of_lt (Nat.lt_of_lt_of_le (by have := World.block_lt_of_cell? _ _ hx105_0; first | rwa [add_block] at this | exact this) GW103.out)
        have hn105_1 : ad104.block ≠ gb103 := Nat.ne_of_lt (Nat.lt_of_lt_of_le (by have := World.block_lt_of_cell? _ _ hx105_0; first | rwa [add_block] at this | exact this) GW103.out)
        replace hx105_0 := (HB.out.cell (World.block_lt_of_cell? w _ hx105_0)).trans hx105_0
        replace hx105_0 := (cell_far (p := ⟨gb103, 0, none⟩) (by first | (rw [add_block]; exact hn105_0) | (show (Addr.add _ _).block ≠ _; rw [add_block]; exact hn105_0) | exact hn105_0) (.int .i64 15)).trans hx105_0
        replace hx105_0 := (cell_far (p := ⟨gb103, 1, none⟩) (by first | (rw [add_block]; exact hn105_1) | (show (Addr.add _ _).block ≠ _; rw [add_block]; exact hn105_1) | exact hn105_1) (.int .i64 0)).trans hx105_0
        clear hn105_0
        clear hn105_1
        replace p105 := eq_true p105
        replace q105 := eq_true q105
        go_wp2
        go_meet
        case rel => exact ⟨_, (false), (by first | rfl | (simp; done) | (simp [*]; done)), H', ⟨by first | omega | exact Nat.le_refl _⟩, ⟨by (with_reducible repeat (first | refine blk_drewN ?_ _ | refine blk_drew ?_ | refine blk_alloc ?_ _)); refine blk_far ?_ NB102_103.out _; (with_reducible repeat (first | refine blk_drewN ?_ _ | refine blk_drew ?_ | refine blk_alloc ?_ _)); refine blk_far ?_ NB102_103.out _; (with_reducible repeat (first | refine blk_drewN ?_ _ | refine blk_drew ?_ | refine blk_alloc ?_ _)); exact BK102.out⟩, ⟨by (with_reducible repeat (first | refine blk_drewN ?_ _ | refine blk_drew ?_ | refine blk_alloc ?_ _)); refine blk_put (cs := #[.int .i64 15, .int .i64 0]) ?_ 1 _ rfl; (with_reducible repeat (first | refine blk_drewN ?_ _ | refine blk_drew ?_ | refine blk_alloc ?_ _)); refine blk_put (cs := #[.int .i64 0, .int .i64 0]) ?_ 0 _ rfl; (with_reducible repeat (first | refine blk_drewN ?_ _ | refine blk_drew ?_ | refine blk_alloc ?_ _)); exact BK103.out⟩, ⟨by repeat (first | (with_reducible first | exact HB.out | apply below_alloc | apply pw_below_drewN | apply below_drew1 | refine below_set ?_ GE102.out | refine below_set ?_ GE103.out) | exact HB.out)⟩⟩
       ·rw [if_neg c22] at H
        have c22b0 : ((rd l0 1) == 91) = false := beq_eq_false_iff_ne.mpr c22
        have c22b1 : ((rd l0 1) != 91) = true := bne_iff_ne.mpr c22
        have H' := Aside0.mk H
        clear H
        have p105 : 0 ≤ (1 : Int) := (by omega)
        have q105 : 1 < (l0.length : Int) := of_decide_eq_true (by first | (with_reducible assumption) | assumption)
        obtain ⟨ad105, e105, hx105_0⟩ := Kd.at_int HR0.out 1 p105 q105
        obtain rfl : ad104 = ad105 := (by injection e105)
        (try simp only [show (1 : Int).toNat = 1 from rfl, Nat.reduceMul, Nat.reduceEqDiff, Go.Addr.add, ↓reduceIte] at hx105_0)
        have qi105 : (1 < l0.length) = True := eq_true (by omega)
        (try rw [show ((1 : Int)).toNat = 1 from rfl] at hx105_0)
        have hn105_0 : ad104.block ≠ gb103 := Nat.ne_of_lt (Nat.lt_of_lt_of_le (by have := World.block_lt_of_cell? _ _ hx105_0; first | rwa [add_block] at this | exact this) GW103.out)
        have hn105_1 : ad104.block ≠ gb103 := Nat.ne_of_lt (Nat.lt_of_lt_of_le (by have := World.block_lt_of_cell? _ _ hx105_0; first | rwa [add_block] at this | exact this) GW103.out)
        replace hx105_0 := (HB.out.cell (World.block_lt_of_cell? w _ hx105_0)).trans hx105_0
        replace hx105_0 := (cell_far (p := ⟨gb103, 0, none⟩) (by first | (rw [add_block]; exact hn105_0) | (show (Addr.add _ _).block ≠ _; rw [add_block]; exact hn105_0) | exact hn105_0) (.int .i64 15)).trans hx105_0
        replace hx105_0 := (cell_far (p := ⟨gb103, 1, none⟩) (by first | (rw [add_block]; exact hn105_1) | (show (Addr.add _ _).block ≠ _; rw [add_block]; exact hn105_1) | exact hn105_1) (.int .i64 0)).trans hx105_0
        clear hn105_0
        clear hn105_1
        replace p105 := eq_true p105
        replace q105 := eq_true q105
        have p106 : 0 ≤ (1 : Int) := (by omega)
        have q106 : 1 < (l0.length : Int) := of_decide_eq_true (by first | (with_reducible assumption) | assumption)
        obtain ⟨ad106, e106, hx106_0⟩ := Kd.at_int HR0.out 1 p106 q106
        obtain rfl : ad104 = ad106 := (by injection e106)
        (try simp only [show (1 : Int).toNat = 1 from rfl, Nat.reduceMul, Nat.reduceEqDiff, Go.Addr.add, ↓reduceIte] at hx106_0)
        have qi106 : (1 < l0.length) = True := eq_true (by omega)
        (try rw [show ((1 : Int)).toNat = 1 from rfl] at hx106_0)
        have hn106_0 : ad104.block ≠ gb103 := Nat.ne_of_lt (Nat.lt_of_lt_of_le (by have := World.block_lt_of_cell? _ _ hx106_0; first | rwa [add_block] at this | exact this) GW103.out)
        have hn106_1 : ad104.block ≠ gb103 := Nat.ne_of_lt (Nat.lt_of_lt_of_le (by have := World.block_lt_of_cell? _ _ hx106_0; first | rwa [add_block] at this | exact this) GW103.out)
        replace hx106_0 := (HB.out.cell (World.block_lt_of_cell? w _ hx106_0)).trans hx106_0
        replace hx106_0 := (cell_far (p := ⟨gb103, 0, none⟩) (by first | (rw [add_block]; exact hn106_0) | (show (Addr.add _ _).block ≠ _; rw [add_block]; exact hn106_0) | exact hn106_0) (.int .i64 15)).trans hx106_0
        replace hx106_0 := (cell_far (p := ⟨gb103, 1, none⟩) (by first | (rw [add_block]; exact hn106_1) | (show (Addr.add _ _).block ≠ _; rw [add_block]; exact hn106_1) | exact hn106_1) (.int .i64 0)).trans hx106_0
        clear hn106_0
        clear hn106_1
        replace p106 := eq_true p106
        replace q106 := eq_true q106
        go_wp2
        go_meet
        case rel => exact ⟨_, (((rd l0 1) != 79)), (by first | rfl | (simp; done) | (simp [*]; done)), H', ⟨by first | omega | exact Nat.le_refl _⟩, ⟨by (with_reducible repeat (first | refine blk_drewN ?_ _ | refine blk_drew ?_ | refine blk_alloc ?_ _)); refine blk_far ?_ NB102_103.out _; (with_reducible repeat (first | refine blk_drewN ?_ _ | refine blk_drew ?_ | refine blk_alloc ?_ _)); refine blk_far ?_ NB102_103.out _; (with_reducible repeat (first | refine blk_drewN ?_ _ | refine blk_drew ?_ | refine blk_alloc ?_ _)); exact BK102.out⟩, ⟨by (with_reducible repeat (first | refine blk_drewN ?_ _ | refine blk_drew ?_ | refine blk_alloc ?_ _)); refine blk_put (cs := #[.int .i64 15, .int .i64 0]) ?_ 1 _ rfl; (with_reducible repeat (first | refine blk_drewN ?_ _ | refine blk_drew ?_ | refine blk_alloc ?_ _)); refine blk_put (cs := #[.int .i64 0, .int .i64 0]) ?_ 0 _ rfl; (with_reducible repeat (first | refine blk_drewN ?_ _ | refine blk_drew ?_ | refine blk_alloc ?_ _)); exact BK103.out⟩, ⟨by repeat (first | (with_reducible first | exact HB.out | apply below_alloc | apply pw_below_drewN | apply below_drew1 | refine below_set ?_ GE102.out | refine below_set ?_ GE103.out) | exact HB.out)⟩⟩
      ·rw [if_neg c21] at H
       exact absurd H (by simp)
     case rest =>
      clear HC16
      try clear c1
      try clear p1
      try clear q1
      try clear hx1
      try clear qi1
      try clear c2
      try clear c2b0
      try clear c2b1
      try clear c2b2
      try clear p2
      try clear c3
      try clear c5
      try clear c8
      try clear c8b0
      try clear c8b1
      try clear c9
      try clear c9b0
      try clear c9b1
      try clear c10
      try clear c10b0
      try clear c10b1
      try clear p10
      try clear q10
      try clear hx10
      try clear qi10
      try clear c13
      try clear c19
      try clear c21
      try clear c21b0
      try clear c21b1
      try clear c22
      try clear c22b0
      try clear c22b1
      try clear hcz14_0
      try clear hcz14_1
      try clear hcz15_0
      try clear hcz15_1
      try clear hcz20_0
      try clear hcz20_1
      try clear hcz6_0
      try clear hcz6_1
      try clear hcz7_0
      try clear hcz7_1
      try clear hfz14_0
      try clear hfz14_1
      try clear hfz15_0
      try clear hfz15_1
      try clear hfz20_0
      try clear hfz20_1
      try clear hfz6_0
      try clear hfz6_1
      try clear hfz7_0
      try clear hfz7_1
      try clear hx104_0
      try clear hx105_0
      try clear hx106_0
      try clear p104
      try clear p105
      try clear p106
      try clear q104
      try clear q105
      try clear q106
      obtain ⟨kq, x30_15, rfl, HA, HJ15, BK102, BK103, HB⟩ := hcut
      cases kq with
      | zero => exact absurd HA.out (by simp [whispererref09_Next.j0])
      | succ kj15 =>
       have H := HA.out
       clear HA
       simp only [whispererref09_Next.j0] at H
       by_cases c23 : x30_15 = true
       ·subst c23
        have H1 : (some (15, 0, 1, 0)) = some (r1, r2, r3, r4) := by rw [if_pos rfl] at H; exact H
        clear H
        have H := H1
        clear H1
        simp only [Option.some.injEq, Prod.mk.injEq] at H
        obtain ⟨rfl, rfl, rfl, rfl⟩ := H
        have hnb24 := NB103_102.out
        have hnc24 := NB102_103.out
        have hcz25_0 : wc.cell? ⟨gb103, 0, none⟩ = some (.int .i64 15) := (blk_cell BK103.out 0).trans rfl
        have hcz25_1 : wc.cell? ⟨gb103, 1, none⟩ = some (.int .i64 0) := (blk_cell BK103.out 1).trans rfl
        have hfz25_0 := blk_frozen BK103.out 0
        have hfz25_1 := blk_frozen BK103.out 1
        have hcz26_0 : wc.cell? ⟨gb102, 0, none⟩ = some (.int .i64 0) := (blk_cell BK102.out 0).trans rfl
        have hcz26_1 : wc.cell? ⟨gb102, 1, none⟩ = some (.int .i64 0) := (blk_cell BK102.out 1).trans rfl
        have hfz26_0 := blk_frozen BK102.out 0
        have hfz26_1 := blk_frozen BK102.out 1
        go_wp2
        refine bodyPost_ret (results_ctt rfl _ _ gb102 71 #[.int .i64 15, .int .i64 0] (0, 0) _ rfl (by (with_reducible repeat (first | refine blk_drewN ?_ _ | refine blk_drew ?_ | refine blk_alloc ?_ _)); refine blk_put (cs := #[.int .i64 15, .int .i64 0]) ?_ 1 _ rfl; (with_reducible repeat (first | refine blk_drewN ?_ _ | refine blk_drew ?_ | refine blk_alloc ?_ _)); refine blk_put (cs := #[.int .i64 0, .int .i64 0]) ?_ 0 _ rfl; (with_reducible repeat (first | refine blk_drewN ?_ _ | refine blk_drew ?_ | refine blk_alloc ?_ _)); exact BK102.out) Tryd.underlying71 rfl (by kernel_rfl)) rfl ?_
        exact ⟨by first | rfl | (simp [errW_none, errW_some] <;> rfl) | (simp [*, errW_none, errW_some] <;> rfl), by repeat (first | (with_reducible first | exact HB.out | apply below_alloc | apply pw_below_drewN | apply below_drew1 | refine below_set ?_ GE102.out | refine below_set ?_ GE103.out) | exact HB.out)⟩
       ·replace c23 := Bool.eq_false_iff.mpr c23
        subst c23
        have H1 : (whispererref09_Next.l0 kj15 l0 2 15 0) = some (r1, r2, r3, r4) := by rw [if_neg (show ¬ (false = true) by decide)] at H; exact H
        clear H
        have H := H1
        clear H1
        have HC27 := Aside0.mk H
        clear H
        go_upto_block 0 with (fail)
        go_cut [6] (fun v6 wc => ∃ (kq : Nat) (x6_26 : Int), v6 = .int .i64 x6_26 ∧ Aside0 (whispererref09_Next.j2 kq l0 x6_26 15 0 = some (r1, r2, r3, r4)) ∧ Aside0 (kq ≤ kj15) ∧ Aside0 (wc.heap[gb102]? = some (.cells #[.int .i64 0, .int .i64 0] 71 (0, 0))) ∧ Aside0 (wc.heap[gb103]? = some (.cells #[.int .i64 15, .int .i64 0] 71 (0, 0))) ∧ Aside0 (Below w.heap.size w wc))
        case first =>
         have H := HC27.out
         clear HC27
         have H' := Aside0.mk H
         clear H
         go_wp2
         go_loopg [6] kj15 (fun kq v6 w' => ∃ (x6_2 : Int), v6 = .int .i64 x6_2 ∧ Aside0 (whispererref09_Next.l0 kq l0 x6_2 15 0 = some (r1, r2, r3, r4)) ∧ Aside0 (kq ≤ kj15) ∧ Aside0 (w'.heap[gb102]? = some (.cells #[.int .i64 0, .int .i64 0] 71 (0, 0))) ∧ Aside0 (w'.heap[gb103]? = some (.cells #[.int .i64 15, .int .i64 0] 71 (0, 0))) ∧ Aside0 (Below w.heap.size w w'))
         case atStart => exact ⟨(2), (by first | rfl | (simp; done) | (simp [*]; done)), H', ⟨Nat.le_refl _⟩, ⟨by (with_reducible repeat (first | refine blk_drewN ?_ _ | refine blk_drew ?_ | refine blk_alloc ?_ _)); exact BK102.out⟩, ⟨by (with_reducible repeat (first | refine blk_drewN ?_ _ | refine blk_drew ?_ | refine blk_alloc ?_ _)); exact BK103.out⟩, ⟨by repeat (first | (with_reducible first | exact HB.out | apply below_alloc | apply pw_below_drewN | apply below_drew1 | refine below_set ?_ GE102.out | refine below_set ?_ GE103.out) | exact HB.out)⟩⟩
         case round =>
          clear H'
          try clear c1
          try clear p1
          try clear q1
          try clear hx1
          try clear qi1
          try clear c2
          try clear c2b0
          try clear c2b1
          try clear c2b2
          try clear p2
          try clear c3
          try clear c5
          try clear c8
          try clear c8b0
          try clear c8b1
          try clear c9
          try clear c9b0
          try clear c9b1
          try clear c10
          try clear c10b0
          try clear c10b1
          try clear p10
          try clear q10
          try clear hx10
          try clear qi10
          try clear c13
          try clear c19
          try clear c21
          try clear c21b0
          try clear c21b1
          try clear c22
          try clear c22b0
          try clear c22b1
          try clear c23
          try clear c24
          try clear hcz14_0
          try clear hcz14_1
          try clear hcz15_0
          try clear hcz15_1
          try clear hcz20_0
          try clear hcz20_1
          try clear hcz25_0
          try clear hcz25_1
          try clear hcz26_0
          try clear hcz26_1
          try clear hcz6_0
          try clear hcz6_1
          try clear hcz7_0
          try clear hcz7_1
          try clear hfz14_0
          try clear hfz14_1
          try clear hfz15_0
          try clear hfz15_1
          try clear hfz20_0
          try clear hfz20_1
          try clear hfz25_0
          try clear hfz25_1
          try clear hfz26_0
          try clear hfz26_1
          try clear hfz6_0
          try clear hfz6_1
          try clear hfz7_0
          try clear hfz7_1
          try clear hx104_0
          try clear hx105_0
          try clear hx106_0
          try clear p1
          try clear p10
          try clear p104
          try clear p105
          try clear p106
          try clear p2
          try clear q1
          try clear q10
          try clear q104
          try clear q105
          try clear q106
          obtain ⟨x6_2, rfl, HA, HK2, BK102, BK103, HB⟩ := hrel
          cases gk with
          | zero => exact absurd HA.out (by simp [whispererref09_Next.l0])
          | succ k2 =>
           have H := HA.out
           clear HA
           simp only [whispererref09_Next.l0] at H
           by_cases c28 : 1 < (l0.length : Int)
           ·rw [if_pos c28] at H
            have c28b0 : decide (1 < (l0.length : Int)) = true := decide_eq_true c28
            have c28b1 : decide (1 < l0.length) = true := decide_eq_true (by omega)
            clear c28
            (first | rw [c28b0] | (simp only [i64_w, i32_w]; rw [c28b0]) | skip)
            by_cases c29 : (rd l0 1) = 91
            ·rw [if_pos c29] at H
             have c29b0 : ((rd l0 1) == 91) = true := beq_iff_eq.mpr c29
             have c29b1 : ((rd l0 1) != 91) = false := bne_eq_false_iff_eq.mpr c29
             clear c29
             by_cases c30 : x6_2 < (l0.length : Int)
             ·rw [if_pos c30] at H
              have c30b0 : decide (x6_2 < (l0.length : Int)) = true := decide_eq_true c30
              clear c30
              by_cases c31 : x6_2 < 34
              ·rw [if_pos c31] at H
               have c31b0 : decide (x6_2 < 34) = true := decide_eq_true c31
               clear c31
               by_cases c32 : 0 ≤ x6_2
               ·rw [if_pos c32] at H
                have c32b0 : decide (0 ≤ x6_2) = true := decide_eq_true c32
                clear c32
                by_cases c33 : (rd l0 x6_2) ≥ 48
                ·rw [if_pos c33] at H
                 have c33b0 : decide (48 ≤ (rd l0 x6_2)) = true := decide_eq_true c33
                 clear c33
                 by_cases c34 : (rd l0 x6_2) ≤ 63
                 ·rw [if_pos c34] at H
                  have c34b0 : decide ((rd l0 x6_2) ≤ 63) = true := decide_eq_true c34
                  clear c34
                  have H' := Aside0.mk H
                  clear H
                  have p107 : 0 ≤ (1 : Int) := (by omega)
                  have q107 : 1 < (l0.length : Int) := of_decide_eq_true (by first | (with_reducible assumption) | assumption)
                  obtain ⟨ad107, e107, hx107_0⟩ := Kd.at_int HR0.out 1 p107 q107
                  obtain rfl : ad104 = ad107 := (by injection e107)
                  (try simp only [show (1 : Int).toNat = 1 from rfl, Nat.reduceMul, Nat.reduceEqDiff, Go.Addr.add, ↓reduceIte] at hx107_0)
                  have qi107 : (1 < l0.length) = True := eq_true (by omega)
                  (try rw [show ((1 : Int)).toNat = 1 from rfl] at hx107_0)
                  replace hx107_0 := (HB.out.cell (World.block_lt_of_cell? w _ hx107_0)).trans hx107_0
                  replace p107 := eq_true p107
                  replace q107 := eq_true q107
                  have p108 : 0 ≤ (x6_2 : Int) := of_decide_eq_true (by first | (with_reducible assumption) | assumption)
                  have q108 : x6_2 < (l0.length : Int) := of_decide_eq_true (by first | (with_reducible assumption) | assumption)
                  obtain ⟨ad108, e108, hx108_0⟩ := Kd.at_int HR0.out x6_2 p108 q108
                  obtain rfl : ad104 = ad108 := (by injection e108)
                  replace hx108_0 := (HB.out.cell (World.block_lt_of_cell? w _ hx108_0)).trans hx108_0
                  replace p108 := eq_true p108
                  replace q108 := eq_true q108
                  have p109 : 0 ≤ (x6_2 : Int) := of_decide_eq_true (by first | (with_reducible assumption) | assumption)
                  have q109 : x6_2 < (l0.length : Int) := of_decide_eq_true (by first | (with_reducible assumption) | assumption)
                  obtain ⟨ad109, e109, hx109_0⟩ := Kd.at_int HR0.out x6_2 p109 q109
                  obtain rfl : ad104 = ad109 := (by injection e109)
                  replace hx109_0 := (HB.out.cell (World.block_lt_of_cell? w _ hx109_0)).trans hx109_0
                  replace p109 := eq_true p109
                  replace q109 := eq_true q109
                  go_wp2
                  go_roundg k2
                  case measure => have := HJ15.out; have := HK2.out; omega
                  case rel => exact ⟨(wrap64 (x6_2 + 1)), (by first | rfl | (simp; done) | (simp [*]; done)), H', ⟨by have := HJ15.out; have := HK2.out; omega⟩, ⟨by (with_reducible repeat (first | refine blk_drewN ?_ _ | refine blk_drew ?_ | refine blk_alloc ?_ _)); exact BK102.out⟩, ⟨by (with_reducible repeat (first | refine blk_drewN ?_ _ | refine blk_drew ?_ | refine blk_alloc ?_ _)); exact BK103.out⟩, ⟨by repeat (first | (with_reducible first | exact HB.out | apply below_alloc | apply pw_below_drewN | apply below_drew1 | refine below_set ?_ GE102.out | refine below_set ?_ GE103.out) | exact HB.out)⟩⟩
                 ·rw [if_neg c34] at H
                  have c34b0 : decide ((rd l0 x6_2) ≤ 63) = false := decide_eq_false c34
                  clear c34
                  have H' := Aside0.mk H
                  clear H
                  have p107 : 0 ≤ (1 : Int) := (by omega)
                  have q107 : 1 < (l0.length : Int) := of_decide_eq_true (by first | (with_reducible assumption) | assumption)
                  obtain ⟨ad107, e107, hx107_0⟩ := Kd.at_int HR0.out 1 p107 q107
                  obtain rfl : ad104 = ad107 := (by injection e107)
                  (try simp only [show (1 : Int).toNat = 1 from rfl, Nat.reduceMul, Nat.reduceEqDiff, Go.Addr.add, ↓reduceIte] at hx107_0)
                  have qi107 : (1 < l0.length) = True := eq_true (by omega)
                  (try rw [show ((1 : Int)).toNat = 1 from rfl] at hx107_0)
                  replace hx107_0 := (HB.out.cell (World.block_lt_of_cell? w _ hx107_0)).trans hx107_0
                  replace p107 := eq_true p107
                  replace q107 := eq_true q107
                  have p108 : 0 ≤ (x6_2 : Int) := of_decide_eq_true (by first | (with_reducible assumption) | assumption)
                  have q108 : x6_2 < (l0.length : Int) := of_decide_eq_true (by first | (with_reducible assumption) | assumption)
                  obtain ⟨ad108, e108, hx108_0⟩ := Kd.at_int HR0.out x6_2 p108 q108
                  obtain rfl : ad104 = ad108 := (by injection e108)
                  replace hx108_0 := (HB.out.cell (World.block_lt_of_cell? w _ hx108_0)).trans hx108_0
                  replace p108 := eq_true p108
                  replace q108 := eq_true q108
                  have p109 : 0 ≤ (x6_2 : Int) := of_decide_eq_true (by first | (with_reducible assumption) | assumption)
                  have q109 : x6_2 < (l0.length : Int) := of_decide_eq_true (by first | (with_reducible assumption) | assumption)
                  obtain ⟨ad109, e109, hx109_0⟩ := Kd.at_int HR0.out x6_2 p109 q109
                  obtain rfl : ad104 = ad109 := (by injection e109)
                  replace hx109_0 := (HB.out.cell (World.block_lt_of_cell? w _ hx109_0)).trans hx109_0
                  replace p109 := eq_true p109
                  replace q109 := eq_true q109
                  go_wp2
                  go_meet
                  case rel => exact ⟨_, (x6_2), (by first | rfl | (simp; done) | (simp [*]; done)), H', ⟨by have := HJ15.out; have := HK2.out; first | omega | exact Nat.le_refl _⟩, ⟨by (with_reducible repeat (first | refine blk_drewN ?_ _ | refine blk_drew ?_ | refine blk_alloc ?_ _)); exact BK102.out⟩, ⟨by (with_reducible repeat (first | refine blk_drewN ?_ _ | refine blk_drew ?_ | refine blk_alloc ?_ _)); exact BK103.out⟩, ⟨by repeat (first | (with_reducible first | exact HB.out | apply below_alloc | apply pw_below_drewN | apply below_drew1 | refine below_set ?_ GE102.out | refine below_set ?_ GE103.out) | exact HB.out)⟩⟩
                ·rw [if_neg c33] at H
                 have c33b0 : decide (48 ≤ (rd l0 x6_2)) = false := decide_eq_false c33
                 clear c33
                 have H' := Aside0.mk H
                 clear H
                 have p107 : 0 ≤ (1 : Int) := (by omega)
                 have q107 : 1 < (l0.length : Int) := of_decide_eq_true (by first | (with_reducible assumption) | assumption)
                 obtain ⟨ad107, e107, hx107_0⟩ := Kd.at_int HR0.out 1 p107 q107
                 obtain rfl : ad104 = ad107 := (by injection e107)
                 (try simp only [show (1 : Int).toNat = 1 from rfl, Nat.reduceMul, Nat.reduceEqDiff, Go.Addr.add, ↓reduceIte] at hx107_0)
                 have qi107 : (1 < l0.length) = True := eq_true (by omega)
                 (try rw [show ((1 : Int)).toNat = 1 from rfl] at hx107_0)
                 replace hx107_0 := (HB.out.cell (World.block_lt_of_cell? w _ hx107_0)).trans hx107_0
                 replace p107 := eq_true p107
                 replace q107 := eq_true q107
                 have p108 : 0 ≤ (x6_2 : Int) := of_decide_eq_true (by first | (with_reducible assumption) | assumption)
                 have q108 : x6_2 < (l0.length : Int) := of_decide_eq_true (by first | (with_reducible assumption) | assumption)
                 obtain ⟨ad108, e108, hx108_0⟩ := Kd.at_int HR0.out x6_2 p108 q108
                 obtain rfl : ad104 = ad108 := (by injection e108)
                 replace hx108_0 := (HB.out.cell (World.block_lt_of_cell? w _ hx108_0)).trans hx108_0
                 replace p108 := eq_true p108
                 replace q108 := eq_true q108
                 go_wp2
                 go_meet
                 case rel => exact ⟨_, (x6_2), (by first | rfl | (simp; done) | (simp [*]; done)), H', ⟨by have := HJ15.out; have := HK2.out; first | omega | exact Nat.le_refl _⟩, ⟨by (with_reducible repeat (first | refine blk_drewN ?_ _ | refine blk_drew ?_ | refine blk_alloc ?_ _)); exact BK102.out⟩, ⟨by (with_reducible repeat (first | refine blk_drewN ?_ _ | refine blk_drew ?_ | refine blk_alloc ?_ _)); exact BK103.out⟩, ⟨by repeat (first | (with_reducible first | exact HB.out | apply below_alloc | apply pw_below_drewN | apply below_drew1 | refine below_set ?_ GE102.out | refine below_set ?_ GE103.out) | exact HB.out)⟩⟩
               ·rw [if_neg c32] at H
                exact absurd H (by simp)
              ·rw [if_neg c31] at H
               have c31b0 : decide (x6_2 < 34) = false := decide_eq_false c31
               clear c31
               have H' := Aside0.mk H
               clear H
               have p107 : 0 ≤ (1 : Int) := (by omega)
               have q107 : 1 < (l0.length : Int) := of_decide_eq_true (by first | (with_reducible assumption) | assumption)
               obtain ⟨ad107, e107, hx107_0⟩ := Kd.at_int HR0.out 1 p107 q107
               obtain rfl : ad104 = ad107 := (by injection e107)
               (try simp only [show (1 : Int).toNat = 1 from rfl, Nat.reduceMul, Nat.reduceEqDiff, Go.Addr.add, ↓reduceIte] at hx107_0)
               have qi107 : (1 < l0.length) = True := eq_true (by omega)
               (try rw [show ((1 : Int)).toNat = 1 from rfl] at hx107_0)
               replace hx107_0 := (HB.out.cell (World.block_lt_of_cell? w _ hx107_0)).trans hx107_0
               replace p107 := eq_true p107
               replace q107 := eq_true q107
               go_wp2
               go_meet
               case rel => exact ⟨_, (x6_2), (by first | rfl | (simp; done) | (simp [*]; done)), H', ⟨by have := HJ15.out; have := HK2.out; first | omega | exact Nat.le_refl _⟩, ⟨by (with_reducible repeat (first | refine blk_drewN ?_ _ | refine blk_drew ?_ | refine blk_alloc ?_ _)); exact BK102.out⟩, ⟨by (with_reducible repeat (first | refine blk_drewN ?_ _ | refine blk_drew ?_ | refine blk_alloc ?_ _)); exact BK103.out⟩, ⟨by repeat (first | (with_reducible first | exact HB.out | apply below_alloc | apply pw_below_drewN | apply below_drew1 | refine below_set ?_ GE102.out | refine below_set ?_ GE103.out) | exact HB.out)⟩⟩
             ·rw [if_neg c30] at H
              have c30b0 : decide (x6_2 < (l0.length : Int)) = false := decide_eq_false c30
              clear c30
              have H' := Aside0.mk H
              clear H
              have p107 : 0 ≤ (1 : Int) := (by omega)
              have q107 : 1 < (l0.length : Int) := of_decide_eq_true (by first | (with_reducible assumption) | assumption)
              obtain ⟨ad107, e107, hx107_0⟩ := Kd.at_int HR0.out 1 p107 q107
              obtain rfl : ad104 = ad107 := (by injection e107)
              (try simp only [show (1 : Int).toNat = 1 from rfl, Nat.reduceMul, Nat.reduceEqDiff, Go.Addr.add, ↓reduceIte] at hx107_0)
              have qi107 : (1 < l0.length) = True := eq_true (by omega)
              (try rw [show ((1 : Int)).toNat = 1 from rfl] at hx107_0)
              replace hx107_0 := (HB.out.cell (World.block_lt_of_cell? w _ hx107_0)).trans hx107_0
              replace p107 := eq_true p107
              replace q107 := eq_true q107
              go_wp2
              go_meet
              case rel => exact ⟨_, (x6_2), (by first | rfl | (simp; done) | (simp [*]; done)), H', ⟨by have := HJ15.out; have := HK2.out; first | omega | exact Nat.le_refl _⟩, ⟨by (with_reducible repeat (first | refine blk_drewN ?_ _ | refine blk_drew ?_ | refine blk_alloc ?_ _)); exact BK102.out⟩, ⟨by (with_reducible repeat (first | refine blk_drewN ?_ _ | refine blk_drew ?_ | refine blk_alloc ?_ _)); exact BK103.out⟩, ⟨by repeat (first | (with_reducible first | exact HB.out | apply below_alloc | apply pw_below_drewN | apply below_drew1 | refine below_set ?_ GE102.out | refine below_set ?_ GE103.out) | exact HB.out)⟩⟩
            ·rw [if_neg c29] at H
             have c29b0 : ((rd l0 1) == 91) = false := beq_eq_false_iff_ne.mpr c29
             have c29b1 : ((rd l0 1) != 91) = true := bne_iff_ne.mpr c29
             have H' := Aside0.mk H
             clear H
             have p107 : 0 ≤ (1 : Int) := (by omega)
             have q107 : 1 < (l0.length : Int) := of_decide_eq_true (by first | (with_reducible assumption) | assumption)
             obtain ⟨ad107, e107, hx107_0⟩ := Kd.at_int HR0.out 1 p107 q107
             obtain rfl : ad104 = ad107 := (by injection e107)
             (try simp only [show (1 : Int).toNat = 1 from rfl, Nat.reduceMul, Nat.reduceEqDiff, Go.Addr.add, ↓reduceIte] at hx107_0)
             have qi107 : (1 < l0.length) = True := eq_true (by omega)
             (try rw [show ((1 : Int)).toNat = 1 from rfl] at hx107_0)
             replace hx107_0 := (HB.out.cell (World.block_lt_of_cell? w _ hx107_0)).trans hx107_0
             replace p107 := eq_true p107
             replace q107 := eq_true q107
             go_wp2
             go_meet
             case rel => exact ⟨_, (x6_2), (by first | rfl | (simp; done) | (simp [*]; done)), H', ⟨by have := HJ15.out; have := HK2.out; first | omega | exact Nat.le_refl _⟩, ⟨by (with_reducible repeat (first | refine blk_drewN ?_ _ | refine blk_drew ?_ | refine blk_alloc ?_ _)); exact BK102.out⟩, ⟨by (with_reducible repeat (first | refine blk_drewN ?_ _ | refine blk_drew ?_ | refine blk_alloc ?_ _)); exact BK103.out⟩, ⟨by repeat (first | (with_reducible first | exact HB.out | apply below_alloc | apply pw_below_drewN | apply below_drew1 | refine below_set ?_ GE102.out | refine below_set ?_ GE103.out) | exact HB.out)⟩⟩
           ·rw [if_neg c28] at H
            exact absurd H (by simp)
        case rest =>
         clear HC27
         try clear c1
         try clear p1
         try clear q1
         try clear hx1
         try clear qi1
         try clear c2
         try clear c2b0
         try clear c2b1
         try clear c2b2
         try clear p2
         try clear c3
         try clear c5
         try clear p6
         try clear c8
         try clear c8b0
         try clear c8b1
         try clear c9
         try clear c9b0
         try clear c9b1
         try clear c10
         try clear c10b0
         try clear c10b1
         try clear p10
         try clear q10
         try clear hx10
         try clear qi10
         try clear c13
         try clear c19
         try clear c21
         try clear c21b0
         try clear c21b1
         try clear c22
         try clear c22b0
         try clear c22b1
         try clear c23
         try clear c24
         try clear c28
         try clear c28b0
         try clear c28b1
         try clear c29
         try clear c29b0
         try clear c29b1
         try clear c30
         try clear c30b0
         try clear c31
         try clear c31b0
         try clear c32
         try clear c32b0
         try clear c33
         try clear c33b0
         try clear c34
         try clear c34b0
         try clear hcz14_0
         try clear hcz14_1
         try clear hcz15_0
         try clear hcz15_1
         try clear hcz20_0
         try clear hcz20_1
         try clear hcz25_0
         try clear hcz25_1
         try clear hcz26_0
         try clear hcz26_1
         try clear hcz6_0
         try clear hcz6_1
         try clear hcz7_0
         try clear hcz7_1
         try clear hfz14_0
         try clear hfz14_1
         try clear hfz15_0
         try clear hfz15_1
         try clear hfz20_0
         try clear hfz20_1
         try clear hfz25_0
         try clear hfz25_1
         try clear hfz26_0
         try clear hfz26_1
         try clear hfz6_0
         try clear hfz6_1
         try clear hfz7_0
         try clear hfz7_1
         try clear hx104_0
         try clear hx105_0
         try clear hx106_0
         try clear hx107_0
         try clear hx108_0
         try clear hx109_0
         try clear p1
         try clear p10
         try clear p104
         try clear p105
         try clear p106
         try clear p107
         try clear p108
         try clear p109
         try clear p2
         try clear q1
         try clear q10
         try clear q104
         try clear q105
         try clear q106
         try clear q107
         try clear q108
         try clear q109
         obtain ⟨kq, x6_26, rfl, HA, HJ26, BK102, BK103, HB⟩ := hcut
         cases kq with
         | zero => exact absurd HA.out (by simp [whispererref09_Next.j2])
         | succ kj26 =>
          have H := HA.out
          clear HA
          simp only [whispererref09_Next.j2] at H
          have HC35 := Aside0.mk H
          clear H
          go_upto_block 2 with (fail)
          go_cut [6] (fun v6 wc => ∃ (kq : Nat) (x6_34 : Int), v6 = .int .i64 x6_34 ∧ Aside0 (whispererref09_Next.j4 kq l0 x6_34 15 0 = some (r1, r2, r3, r4)) ∧ Aside0 (kq ≤ kj26) ∧ Aside0 (wc.heap[gb102]? = some (.cells #[.int .i64 0, .int .i64 0] 71 (0, 0))) ∧ Aside0 (wc.heap[gb103]? = some (.cells #[.int .i64 15, .int .i64 0] 71 (0, 0))) ∧ Aside0 (Below w.heap.size w wc))
          case first =>
           have H := HC35.out
           clear HC35
           have H' := Aside0.mk H
           clear H
           go_wp2
           go_loopg [6] kj26 (fun kq v6 w' => ∃ (x6_3 : Int), v6 = .int .i64 x6_3 ∧ Aside0 (whispererref09_Next.l1 kq l0 x6_3 15 0 = some (r1, r2, r3, r4)) ∧ Aside0 (kq ≤ kj26) ∧ Aside0 (w'.heap[gb102]? = some (.cells #[.int .i64 0, .int .i64 0] 71 (0, 0))) ∧ Aside0 (w'.heap[gb103]? = some (.cells #[.int .i64 15, .int .i64 0] 71 (0, 0))) ∧ Aside0 (Below w.heap.size w w'))
           case atStart => exact ⟨(x6_26), (by first | rfl | (simp; done) | (simp [*]; done)), H', ⟨Nat.le_refl _⟩, ⟨by (with_reducible repeat (first | refine blk_drewN ?_ _ | refine blk_drew ?_ | refine blk_alloc ?_ _)); exact BK102.out⟩, ⟨by (with_reducible repeat (first | refine blk_drewN ?_ _ | refine blk_drew ?_ | refine blk_alloc ?_ _)); exact BK103.out⟩, ⟨by repeat (first | (with_reducible first | exact HB.out | apply below_alloc | apply pw_below_drewN | apply below_drew1 | refine below_set ?_ GE102.out | refine below_set ?_ GE103.out) | exact HB.out)⟩⟩
           case round =>
            clear H'
            try clear c1
            try clear p1
            try clear q1
            try clear hx1
            try clear qi1
            try clear c2
            try clear c2b0
            try clear c2b1
            try clear c2b2
            try clear p2
            try clear c3
            try clear c5
            try clear p6
            try clear c8
            try clear c8b0
            try clear c8b1
            try clear c9
            try clear c9b0
            try clear c9b1
            try clear c10
            try clear c10b0
            try clear c10b1
            try clear p10
            try clear q10
            try clear hx10
            try clear qi10
            try clear c13
            try clear c19
            try clear c21
            try clear c21b0
            try clear c21b1
            try clear c22
            try clear c22b0
            try clear c22b1
            try clear c23
            try clear c24
            try clear c28
            try clear c28b0
            try clear c28b1
            try clear c29
            try clear c29b0
            try clear c29b1
            try clear c30
            try clear c30b0
            try clear c31
            try clear c31b0
            try clear c32
            try clear c32b0
            try clear c33
            try clear c33b0
            try clear c34
            try clear c34b0
            try clear hcz14_0
            try clear hcz14_1
            try clear hcz15_0
            try clear hcz15_1
            try clear hcz20_0
            try clear hcz20_1
            try clear hcz25_0
            try clear hcz25_1
            try clear hcz26_0
            try clear hcz26_1
            try clear hcz6_0
            try clear hcz6_1
            try clear hcz7_0
            try clear hcz7_1
            try clear hfz14_0
            try clear hfz14_1
            try clear hfz15_0
            try clear hfz15_1
            try clear hfz20_0
            try clear hfz20_1
            try clear hfz25_0
            try clear hfz25_1
            try clear hfz26_0
            try clear hfz26_1
            try clear hfz6_0
            try clear hfz6_1
            try clear hfz7_0
            try clear hfz7_1
            try clear hx104_0
            try clear hx105_0
            try clear hx106_0
            try clear hx107_0
            try clear hx108_0
            try clear hx109_0
            try clear p1
            try clear p10
            try clear p104
            try clear p105
            try clear p106
            try clear p107
            try clear p108
            try clear p109
            try clear p2
            try clear p6
            try clear q1
            try clear q10
            try clear q104
            try clear q105
            try clear q106
            try clear q107
            try clear q108
            try clear q109
            obtain ⟨x6_3, rfl, HA, HK3, BK102, BK103, HB⟩ := hrel
            cases gk with
            | zero => exact absurd HA.out (by simp [whispererref09_Next.l1])
            | succ k3 =>
             have H := HA.out
             clear HA
             simp only [whispererref09_Next.l1] at H
             by_cases c36 : 1 < (l0.length : Int)
             ·rw [if_pos c36] at H
              have c36b0 : decide (1 < (l0.length : Int)) = true := decide_eq_true c36
              have c36b1 : decide (1 < l0.length) = true := decide_eq_true (by omega)
              clear c36
              (first | rw [c36b0] | (simp only [i64_w, i32_w]; rw [c36b0]) | skip)
              by_cases c37 : (rd l0 1) = 91
              ·rw [if_pos c37] at H
               have c37b0 : ((rd l0 1) == 91) = true := beq_iff_eq.mpr c37
               have c37b1 : ((rd l0 1) != 91) = false := bne_eq_false_iff_eq.mpr c37
               clear c37
               by_cases c38 : x6_3 < (l0.length : Int)
               ·rw [if_pos c38] at H
                have c38b0 : decide (x6_3 < (l0.length : Int)) = true := decide_eq_true c38
                clear c38
                by_cases c39 : x6_3 < 34
                ·rw [if_pos c39] at H
                 have c39b0 : decide (x6_3 < 34) = true := decide_eq_true c39
                 clear c39
                 by_cases c40 : 0 ≤ x6_3
                 ·rw [if_pos c40] at H
                  have c40b0 : decide (0 ≤ x6_3) = true := decide_eq_true c40
                  clear c40
                  by_cases c41 : (rd l0 x6_3) ≥ 32
                  ·rw [if_pos c41] at H
                   have c41b0 : decide (32 ≤ (rd l0 x6_3)) = true := decide_eq_true c41
                   clear c41
                   by_cases c42 : (rd l0 x6_3) ≤ 47
                   ·rw [if_pos c42] at H
                    have c42b0 : decide ((rd l0 x6_3) ≤ 47) = true := decide_eq_true c42
                    clear c42
                    have H' := Aside0.mk H
                    clear H
                    have p110 : 0 ≤ (1 : Int) := (by omega)
                    have q110 : 1 < (l0.length : Int) := of_decide_eq_true (by first | (with_reducible assumption) | assumption)
                    obtain ⟨ad110, e110, hx110_0⟩ := Kd.at_int HR0.out 1 p110 q110
                    obtain rfl : ad104 = ad110 := (by injection e110)
                    (try simp only [show (1 : Int).toNat = 1 from rfl, Nat.reduceMul, Nat.reduceEqDiff, Go.Addr.add, ↓reduceIte] at hx110_0)
                    have qi110 : (1 < l0.length) = True := eq_true (by omega)
                    (try rw [show ((1 : Int)).toNat = 1 from rfl] at hx110_0)
                    replace hx110_0 := (HB.out.cell (World.block_lt_of_cell? w _ hx110_0)).trans hx110_0
                    replace p110 := eq_true p110
                    replace q110 := eq_true q110
                    have p111 : 0 ≤ (x6_3 : Int) := of_decide_eq_true (by first | (with_reducible assumption) | assumption)
                    have q111 : x6_3 < (l0.length : Int) := of_decide_eq_true (by first | (with_reducible assumption) | assumption)
                    obtain ⟨ad111, e111, hx111_0⟩ := Kd.at_int HR0.out x6_3 p111 q111
                    obtain rfl : ad104 = ad111 := (by injection e111)
                    replace hx111_0 := (HB.out.cell (World.block_lt_of_cell? w _ hx111_0)).trans hx111_0
                    replace p111 := eq_true p111
                    replace q111 := eq_true q111
                    have p112 : 0 ≤ (x6_3 : Int) := of_decide_eq_true (by first | (with_reducible assumption) | assumption)
                    have q112 : x6_3 < (l0.length : Int) := of_decide_eq_true (by first | (with_reducible assumption) | assumption)
                    obtain ⟨ad112, e112, hx112_0⟩ := Kd.at_int HR0.out x6_3 p112 q112
                    obtain rfl : ad104 = ad112 := (by injection e112)
                    replace hx112_0 := (HB.out.cell (World.block_lt_of_cell? w _ hx112_0)).trans hx112_0
                    replace p112 := eq_true p112
                    replace q112 := eq_true q112
                    go_wp2
                    go_roundg k3
                    case measure => have := HJ15.out; have := HJ26.out; have := HK3.out; omega
                    case rel => exact ⟨(wrap64 (x6_3 + 1)), (by first | rfl | (simp; done) | (simp [*]; done)), H', ⟨by have := HJ15.out; have := HJ26.out; have := HK3.out; omega⟩, ⟨by (with_reducible repeat (first | refine blk_drewN ?_ _ | refine blk_drew ?_ | refine blk_alloc ?_ _)); exact BK102.out⟩, ⟨by (with_reducible repeat (first | refine blk_drewN ?_ _ | refine blk_drew ?_ | refine blk_alloc ?_ _)); exact BK103.out⟩, ⟨by repeat (first | (with_reducible first | exact HB.out | apply below_alloc | apply pw_below_drewN | apply below_drew1 | refine below_set ?_ GE102.out | refine below_set ?_ GE103.out) | exact HB.out)⟩⟩
                   ·rw [if_neg c42] at H
                    have c42b0 : decide ((rd l0 x6_3) ≤ 47) = false := decide_eq_false c42
                    clear c42
                    have H' := Aside0.mk H
                    clear H
                    have p110 : 0 ≤ (1 : Int) := (by omega)
                    have q110 : 1 < (l0.length : Int) := of_decide_eq_true (by first | (with_reducible assumption) | assumption)
                    obtain ⟨ad110, e110, hx110_0⟩ := Kd.at_int HR0.out 1 p110 q110
                    obtain rfl : ad104 = ad110 := (by injection e110)
                    (try simp only [show (1 : Int).toNat = 1 from rfl, Nat.reduceMul, Nat.reduceEqDiff, Go.Addr.add, ↓reduceIte] at hx110_0)
                    have qi110 : (1 < l0.length) = True := eq_true (by omega)
                    (try rw [show ((1 : Int)).toNat = 1 from rfl] at hx110_0)
                    replace hx110_0 := (HB.out.cell (World.block_lt_of_cell? w _ hx110_0)).trans hx110_0
                    replace p110 := eq_true p110
                    replace q110 := eq_true q110
                    have p111 : 0 ≤ (x6_3 : Int) := of_decide_eq_true (by first | (with_reducible assumption) | assumption)
                    have q111 : x6_3 < (l0.length : Int) := of_decide_eq_true (by first | (with_reducible assumption) | assumption)
                    obtain ⟨ad111, e111, hx111_0⟩ := Kd.at_int HR0.out x6_3 p111 q111
                    obtain rfl : ad104 = ad111 := (by injection e111)
                    replace hx111_0 := (HB.out.cell (World.block_lt_of_cell? w _ hx111_0)).trans hx111_0
                    replace p111 := eq_true p111
                    replace q111 := eq_true q111
                    have p112 : 0 ≤ (x6_3 : Int) := of_decide_eq_true (by first | (with_reducible assumption) | assumption)
                    have q112 : x6_3 < (l0.length : Int) := of_decide_eq_true (by first | (with_reducible assumption) | assumption)
                    obtain ⟨ad112, e112, hx112_0⟩ := Kd.at_int HR0.out x6_3 p112 q112
                    obtain rfl : ad104 = ad112 := (by injection e112)
                    replace hx112_0 := (HB.out.cell (World.block_lt_of_cell? w _ hx112_0)).trans hx112_0
                    replace p112 := eq_true p112
                    replace q112 := eq_true q112
                    go_wp2
                    go_meet
                    case rel => exact ⟨_, (x6_3), (by first | rfl | (simp; done) | (simp [*]; done)), H', ⟨by have := HJ15.out; have := HJ26.out; have := HK3.out; first | omega | exact Nat.le_refl _⟩, ⟨by (with_reducible repeat (first | refine blk_drewN ?_ _ | refine blk_drew ?_ | refine blk_alloc ?_ _)); exact BK102.out⟩, ⟨by (with_reducible repeat (first | refine blk_drewN ?_ _ | refine blk_drew ?_ | refine blk_alloc ?_ _)); exact BK103.out⟩, ⟨by repeat (first | (with_reducible first | exact HB.out | apply below_alloc | apply pw_below_drewN | apply below_drew1 | refine below_set ?_ GE102.out | refine below_set ?_ GE103.out) | exact HB.out)⟩⟩
                  ·rw [if_neg c41] at H
                   have c41b0 : decide (32 ≤ (rd l0 x6_3)) = false := decide_eq_false c41
                   clear c41
                   have H' := Aside0.mk H
                   clear H
                   have p110 : 0 ≤ (1 : Int) := (by omega)
                   have q110 : 1 < (l0.length : Int) := of_decide_eq_true (by first | (with_reducible assumption) | assumption)
                   obtain ⟨ad110, e110, hx110_0⟩ := Kd.at_int HR0.out 1 p110 q110
                   obtain rfl : ad104 = ad110 := (by injection e110)
                   (try simp only [show (1 : Int).toNat = 1 from rfl, Nat.reduceMul, Nat.reduceEqDiff, Go.Addr.add, ↓reduceIte] at hx110_0)
                   have qi110 : (1 < l0.length) = True := eq_true (by omega)
                   (try rw [show ((1 : Int)).toNat = 1 from rfl] at hx110_0)
                   replace hx110_0 := (HB.out.cell (World.block_lt_of_cell? w _ hx110_0)).trans hx110_0
                   replace p110 := eq_true p110
                   replace q110 := eq_true q110
                   have p111 : 0 ≤ (x6_3 : Int) := of_decide_eq_true (by first | (with_reducible assumption) | assumption)
                   have q111 : x6_3 < (l0.length : Int) := of_decide_eq_true (by first | (with_reducible assumption) | assumption)
                   obtain ⟨ad111, e111, hx111_0⟩ := Kd.at_int HR0.out x6_3 p111 q111
                   obtain rfl : ad104 = ad111 := (by injection e111)
                   replace hx111_0 := (HB.out.cell (World.block_lt_of_cell? w _ hx111_0)).trans hx111_0
                   replace p111 := eq_true p111
                   replace q111 := eq_true q111
                   go_wp2
                   go_meet
                   case rel => exact ⟨_, (x6_3), (by first | rfl | (simp; done) | (simp [*]; done)), H', ⟨by have := HJ15.out; have := HJ26.out; have := HK3.out; first | omega | exact Nat.le_refl _⟩, ⟨by (with_reducible repeat (first | refine blk_drewN ?_ _ | refine blk_drew ?_ | refine blk_alloc ?_ _)); exact BK102.out⟩, ⟨by (with_reducible repeat (first | refine blk_drewN ?_ _ | refine blk_drew ?_ | refine blk_alloc ?_ _)); exact BK103.out⟩, ⟨by repeat (first | (with_reducible first | exact HB.out | apply below_alloc | apply pw_below_drewN | apply below_drew1 | refine below_set ?_ GE102.out | refine below_set ?_ GE103.out) | exact HB.out)⟩⟩
                 ·rw [if_neg c40] at H
                  exact absurd H (by simp)
                ·rw [if_neg c39] at H
                 have c39b0 : decide (x6_3 < 34) = false := decide_eq_false c39
                 clear c39
                 have H' := Aside0.mk H
                 clear H
                 have p110 : 0 ≤ (1 : Int) := (by omega)
                 have q110 : 1 < (l0.length : Int) := of_decide_eq_true (by first | (with_reducible assumption) | assumption)
                 obtain ⟨ad110, e110, hx110_0⟩ := Kd.at_int HR0.out 1 p110 q110
                 obtain rfl : ad104 = ad110 := (by injection e110)
                 (try simp only [show (1 : Int).toNat = 1 from rfl, Nat.reduceMul, Nat.reduceEqDiff, Go.Addr.add, ↓reduceIte] at hx110_0)
                 have qi110 : (1 < l0.length) = True := eq_true (by omega)
                 (try rw [show ((1 : Int)).toNat = 1 from rfl] at hx110_0)
                 replace hx110_0 := (HB.out.cell (World.block_lt_of_cell? w _ hx110_0)).trans hx110_0
                 replace p110 := eq_true p110
                 replace q110 := eq_true q110
                 go_wp2
                 go_meet
                 case rel => exact ⟨_, (x6_3), (by first | rfl | (simp; done) | (simp [*]; done)), H', ⟨by have := HJ15.out; have := HJ26.out; have := HK3.out; first | omega | exact Nat.le_refl _⟩, ⟨by (with_reducible repeat (first | refine blk_drewN ?_ _ | refine blk_drew ?_ | refine blk_alloc ?_ _)); exact BK102.out⟩, ⟨by (with_reducible repeat (first | refine blk_drewN ?_ _ | refine blk_drew ?_ | refine blk_alloc ?_ _)); exact BK103.out⟩, ⟨by repeat (first | (with_reducible first | exact HB.out | apply below_alloc | apply pw_below_drewN | apply below_drew1 | refine below_set ?_ GE102.out | refine below_set ?_ GE103.out) | exact HB.out)⟩⟩
               ·rw [if_neg c38] at H
                have c38b0 : decide (x6_3 < (l0.length : Int)) = false := decide_eq_false c38
                clear c38
                have H' := Aside0.mk H
                clear H
                have p110 : 0 ≤ (1 : Int) := (by omega)
                have q110 : 1 < (l0.length : Int) := of_decide_eq_true (by first | (with_reducible assumption) | assumption)
                obtain ⟨ad110, e110, hx110_0⟩ := Kd.at_int HR0.out 1 p110 q110
                obtain rfl : ad104 = ad110 := (by injection e110)
                (try simp only [show (1 : Int).toNat = 1 from rfl, Nat.reduceMul, Nat.reduceEqDiff, Go.Addr.add, ↓reduceIte] at hx110_0)
                have qi110 : (1 < l0.length) = True := eq_true (by omega)
                (try rw [show ((1 : Int)).toNat = 1 from rfl] at hx110_0)
                replace hx110_0 := (HB.out.cell (World.block_lt_of_cell? w _ hx110_0)).trans hx110_0
                replace p110 := eq_true p110
                replace q110 := eq_true q110
                go_wp2
                go_meet
                case rel => exact ⟨_, (x6_3), (by first | rfl | (simp; done) | (simp [*]; done)), H', ⟨by have := HJ15.out; have := HJ26.out; have := HK3.out; first | omega | exact Nat.le_refl _⟩, ⟨by (with_reducible repeat (first | refine blk_drewN ?_ _ | refine blk_drew ?_ | refine blk_alloc ?_ _)); exact BK102.out⟩, ⟨by (with_reducible repeat (first | refine blk_drewN ?_ _ | refine blk_drew ?_ | refine blk_alloc ?_ _)); exact BK103.out⟩, ⟨by repeat (first | (with_reducible first | exact HB.out | apply below_alloc | apply pw_below_drewN | apply below_drew1 | refine below_set ?_ GE102.out | refine below_set ?_ GE103.out) | exact HB.out)⟩⟩
              ·rw [if_neg c37] at H
               have c37b0 : ((rd l0 1) == 91) = false := beq_eq_false_iff_ne.mpr c37
               have c37b1 : ((rd l0 1) != 91) = true := bne_iff_ne.mpr c37
               have H' := Aside0.mk H
               clear H
               have p110 : 0 ≤ (1 : Int) := (by omega)
               have q110 : 1 < (l0.length : Int) := of_decide_eq_true (by first | (with_reducible assumption) | assumption)
               obtain ⟨ad110, e110, hx110_0⟩ := Kd.at_int HR0.out 1 p110 q110
               obtain rfl : ad104 = ad110 := (by injection e110)
               (try simp only [show (1 : Int).toNat = 1 from rfl, Nat.reduceMul, Nat.reduceEqDiff, Go.Addr.add, ↓reduceIte] at hx110_0)
               have qi110 : (1 < l0.length) = True := eq_true (by omega)
               (try rw [show ((1 : Int)).toNat = 1 from rfl] at hx110_0)
               replace hx110_0 := (HB.out.cell (World.block_lt_of_cell? w _ hx110_0)).trans hx110_0
               replace p110 := eq_true p110
               replace q110 := eq_true q110
               go_wp2
               go_meet
               case rel => exact ⟨_, (x6_3), (by first | rfl | (simp; done) | (simp [*]; done)), H', ⟨by have := HJ15.out; have := HJ26.out; have := HK3.out; first | omega | exact Nat.le_refl _⟩, ⟨by (with_reducible repeat (first | refine blk_drewN ?_ _ | refine blk_drew ?_ | refine blk_alloc ?_ _)); exact BK102.out⟩, ⟨by (with_reducible repeat (first | refine blk_drewN ?_ _ | refine blk_drew ?_ | refine blk_alloc ?_ _)); exact BK103.out⟩, ⟨by repeat (first | (with_reducible first | exact HB.out | apply below_alloc | apply pw_below_drewN | apply below_drew1 | refine below_set ?_ GE102.out | refine below_set ?_ GE103.out) | exact HB.out)⟩⟩
             ·rw [if_neg c36] at H
              exact absurd H (by simp)
          case rest =>
           clear HC35
           try clear c1
           try clear p1
           try clear q1
           try clear hx1
           try clear qi1
           try clear c2
           try clear c2b0
           try clear c2b1
           try clear c2b2
           try clear p2
           try clear c3
           try clear c4
           try clear c5
           try clear p6
           try clear c8
           try clear c8b0
           try clear c8b1
           try clear c9
           try clear c9b0
           try clear c9b1
           try clear c10
           try clear c10b0
           try clear c10b1
           try clear p10
           try clear q10
           try clear hx10
           try clear qi10
           try clear p11
           try clear q11
           try clear hx11
           try clear qi11
           try clear c13
           try clear c19
           try clear c21
           try clear c21b0
           try clear c21b1
           try clear c22
           try clear c22b0
           try clear c22b1
           try clear c23
           try clear c24
           try clear c28
           try clear c28b0
           try clear c28b1
           try clear c29
           try clear c29b0
           try clear c29b1
           try clear c30
           try clear c30b0
           try clear c31
           try clear c31b0
           try clear c32
           try clear c32b0
           try clear c33
           try clear c33b0
           try clear c34
           try clear c34b0
           try clear c36
           try clear c36b0
           try clear c36b1
           try clear c37
           try clear c37b0
           try clear c37b1
           try clear c38
           try clear c38b0
           try clear c39
           try clear c39b0
           try clear c40
           try clear c40b0
           try clear c41
           try clear c41b0
           try clear c42
           try clear c42b0
           try clear hcz14_0
           try clear hcz14_1
           try clear hcz15_0
           try clear hcz15_1
           try clear hcz20_0
           try clear hcz20_1
           try clear hcz25_0
           try clear hcz25_1
           try clear hcz26_0
           try clear hcz26_1
           try clear hcz6_0
           try clear hcz6_1
           try clear hcz7_0
           try clear hcz7_1
           try clear hfz14_0
           try clear hfz14_1
           try clear hfz15_0
           try clear hfz15_1
           try clear hfz20_0
           try clear hfz20_1
           try clear hfz25_0
           try clear hfz25_1
           try clear hfz26_0
           try clear hfz26_1
           try clear hfz6_0
           try clear hfz6_1
           try clear hfz7_0
           try clear hfz7_1
           try clear hx104_0
           try clear hx105_0
           try clear hx106_0
           try clear hx107_0
           try clear hx108_0
           try clear hx109_0
           try clear hx110_0
           try clear hx111_0
           try clear hx112_0
           try clear p1
           try clear p10
           try clear p104
           try clear p105
           try clear p106
           try clear p107
           try clear p108
           try clear p109
           try clear p110
           try clear p111
           try clear p112
           try clear p2
           try clear p6
           try clear q1
           try clear q10
           try clear q104
           try clear q105
           try clear q106
           try clear q107
           try clear q108
           try clear q109
           try clear q110
           try clear q111
           try clear q112
           obtain ⟨kq, x6_34, rfl, HA, HJ34, BK102, BK103, HB⟩ := hcut
           cases kq with
           | zero => exact absurd HA.out (by simp [whispererref09_Next.j4])
           | succ kj34 =>
            have H := HA.out
            clear HA
            simp only [whispererref09_Next.j4] at H
            by_cases c43 : x6_34 = (l0.length : Int)
            ·rw [if_pos c43] at H
             have c43b0 : (x6_34 == (l0.length : Int)) = true := beq_iff_eq.mpr c43
             have c43b1 : (x6_34 != (l0.length : Int)) = false := bne_eq_false_iff_eq.mpr c43
             clear c43
             simp only [Option.some.injEq, Prod.mk.injEq] at H
             obtain ⟨rfl, rfl, rfl, rfl⟩ := H
             have hnb44 := NB102_103.out
             have hnc44 := NB103_102.out
             have hcz45_0 : wc.cell? ⟨gb102, 0, none⟩ = some (.int .i64 0) := (blk_cell BK102.out 0).trans rfl
             have hcz45_1 : wc.cell? ⟨gb102, 1, none⟩ = some (.int .i64 0) := (blk_cell BK102.out 1).trans rfl
             have hfz45_0 := blk_frozen BK102.out 0
             have hfz45_1 := blk_frozen BK102.out 1
             go_wp2
             refine bodyPost_ret (results_ctt rfl _ _ gb102 71 #[.int .i64 0, .int .i64 0] (0, 0) _ rfl (by (with_reducible repeat (first | refine blk_drewN ?_ _ | refine blk_drew ?_ | refine blk_alloc ?_ _)); refine blk_put (cs := #[.int .i64 0, .int .i64 0]) ?_ 1 _ rfl; (with_reducible repeat (first | refine blk_drewN ?_ _ | refine blk_drew ?_ | refine blk_alloc ?_ _)); refine blk_put (cs := #[.int .i64 0, .int .i64 0]) ?_ 0 _ rfl; (with_reducible repeat (first | refine blk_drewN ?_ _ | refine blk_drew ?_ | refine blk_alloc ?_ _)); exact BK102.out) Tryd.underlying71 rfl (by kernel_rfl)) rfl ?_
             exact ⟨by first | rfl | (simp [errW_none, errW_some] <;> rfl) | (simp [*, errW_none, errW_some] <;> rfl), by repeat (first | (with_reducible first | exact HB.out | apply below_alloc | apply pw_below_drewN | apply below_drew1 | refine below_set ?_ GE102.out | refine below_set ?_ GE103.out) | exact HB.out)⟩
            ·rw [if_neg c43] at H
             have c43b0 : (x6_34 == (l0.length : Int)) = false := beq_eq_false_iff_ne.mpr c43
             have c43b1 : (x6_34 != (l0.length : Int)) = true := bne_iff_ne.mpr c43
             by_cases c46 : 0 ≤ x6_34
             ·rw [if_pos c46] at H
              have c46b0 : decide (0 ≤ x6_34) = true := decide_eq_true c46
              clear c46
              by_cases c47 : x6_34 < (l0.length : Int)
              ·rw [if_pos c47] at H
               have c47b0 : decide (x6_34 < (l0.length : Int)) = true := decide_eq_true c47
               clear c47
               by_cases c48 : (rd l0 x6_34) < 64
               ·rw [if_pos c48] at H
                have c48b0 : decide ((rd l0 x6_34) < 64) = true := decide_eq_true c48
                clear c48
                simp only [Option.some.injEq, Prod.mk.injEq] at H
                obtain ⟨rfl, rfl, rfl, rfl⟩ := H
                have p113 : 0 ≤ (x6_34 : Int) := of_decide_eq_true (by first | (with_reducible assumption) | assumption)
                have q113 : x6_34 < (l0.length : Int) := of_decide_eq_true (by first | (with_reducible assumption) | assumption)
                obtain ⟨ad113, e113, hx113_0⟩ := Kd.at_int HR0.out x6_34 p113 q113
                obtain rfl : ad104 = ad113 := (by injection e113)
                replace hx113_0 := (HB.out.cell (World.block_lt_of_cell? w _ hx113_0)).trans hx113_0
                replace p113 := eq_true p113
                replace q113 := eq_true q113
                have hnb49 := NB103_102.out
                have hnc49 := NB102_103.out
                have hcz50_0 : wc.cell? ⟨gb103, 0, none⟩ = some (.int .i64 15) := (blk_cell BK103.out 0).trans rfl
                have hcz50_1 : wc.cell? ⟨gb103, 1, none⟩ = some (.int .i64 0) := (blk_cell BK103.out 1).trans rfl
                have hfz50_0 := blk_frozen BK103.out 0
                have hfz50_1 := blk_frozen BK103.out 1
                have hcz51_0 : wc.cell? ⟨gb102, 0, none⟩ = some (.int .i64 0) := (blk_cell BK102.out 0).trans rfl
                have hcz51_1 : wc.cell? ⟨gb102, 1, none⟩ = some (.int .i64 0) := (blk_cell BK102.out 1).trans rfl
                have hfz51_0 := blk_frozen BK102.out 0
                have hfz51_1 := blk_frozen BK102.out 1
                go_wp2
                refine bodyPost_ret (results_ctt rfl _ _ gb102 71 #[.int .i64 15, .int .i64 0] (0, 0) _ rfl (by (with_reducible repeat (first | refine blk_drewN ?_ _ | refine blk_drew ?_ | refine blk_alloc ?_ _)); refine blk_put (cs := #[.int .i64 15, .int .i64 0]) ?_ 1 _ rfl; (with_reducible repeat (first | refine blk_drewN ?_ _ | refine blk_drew ?_ | refine blk_alloc ?_ _)); refine blk_put (cs := #[.int .i64 0, .int .i64 0]) ?_ 0 _ rfl; (with_reducible repeat (first | refine blk_drewN ?_ _ | refine blk_drew ?_ | refine blk_alloc ?_ _)); exact BK102.out) Tryd.underlying71 rfl (by kernel_rfl)) rfl ?_
                exact ⟨by first | rfl | (simp [errW_none, errW_some] <;> rfl) | (simp [*, errW_none, errW_some] <;> rfl), by repeat (first | (with_reducible first | exact HB.out | apply below_alloc | apply pw_below_drewN | apply below_drew1 | refine below_set ?_ GE102.out | refine below_set ?_ GE103.out) | exact HB.out)⟩
               ·rw [if_neg c48] at H
                have c48b0 : decide ((rd l0 x6_34) < 64) = false := decide_eq_false c48
                clear c48
                by_cases c52 : (rd l0 x6_34) > 126
                ·rw [if_pos c52] at H
                 have c52b0 : decide (126 < (rd l0 x6_34)) = true := decide_eq_true c52
                 clear c52
                 simp only [Option.some.injEq, Prod.mk.injEq] at H
                 obtain ⟨rfl, rfl, rfl, rfl⟩ := H
                 have p113 : 0 ≤ (x6_34 : Int) := of_decide_eq_true (by first | (with_reducible assumption) | assumption)
                 have q113 : x6_34 < (l0.length : Int) := of_decide_eq_true (by first | (with_reducible assumption) | assumption)
                 obtain ⟨ad113, e113, hx113_0⟩ := Kd.at_int HR0.out x6_34 p113 q113
                 obtain rfl : ad104 = ad113 := (by injection e113)
                 replace hx113_0 := (HB.out.cell (World.block_lt_of_cell? w _ hx113_0)).trans hx113_0
                 replace p113 := eq_true p113
                 replace q113 := eq_true q113
                 have p114 : 0 ≤ (x6_34 : Int) := of_decide_eq_true (by first | (with_reducible assumption) | assumption)
                 have q114 : x6_34 < (l0.length : Int) := of_decide_eq_true (by first | (with_reducible assumption) | assumption)
                 obtain ⟨ad114, e114, hx114_0⟩ := Kd.at_int HR0.out x6_34 p114 q114
                 obtain rfl : ad104 = ad114 := (by injection e114)
                 replace hx114_0 := (HB.out.cell (World.block_lt_of_cell? w _ hx114_0)).trans hx114_0
                 replace p114 := eq_true p114
                 replace q114 := eq_true q114
                 have hnb53 := NB103_102.out
                 have hnc53 := NB102_103.out
                 have hcz54_0 : wc.cell? ⟨gb103, 0, none⟩ = some (.int .i64 15) := (blk_cell BK103.out 0).trans rfl
                 have hcz54_1 : wc.cell? ⟨gb103, 1, none⟩ = some (.int .i64 0) := (blk_cell BK103.out 1).trans rfl
                 have hfz54_0 := blk_frozen BK103.out 0
                 have hfz54_1 := blk_frozen BK103.out 1
                 have hcz55_0 : wc.cell? ⟨gb102, 0, none⟩ = some (.int .i64 0) := (blk_cell BK102.out 0).trans rfl
                 have hcz55_1 : wc.cell? ⟨gb102, 1, none⟩ = some (.int .i64 0) := (blk_cell BK102.out 1).trans rfl
                 have hfz55_0 := blk_frozen BK102.out 0
                 have hfz55_1 := blk_frozen BK102.out 1
                 go_wp2
                 refine bodyPost_ret (results_ctt rfl _ _ gb102 71 #[.int .i64 15, .int .i64 0] (0, 0) _ rfl (by (with_reducible repeat (first | refine blk_drewN ?_ _ | refine blk_drew ?_ | refine blk_alloc ?_ _)); refine blk_put (cs := #[.int .i64 15, .int .i64 0]) ?_ 1 _ rfl; (with_reducible repeat (first | refine blk_drewN ?_ _ | refine blk_drew ?_ | refine blk_alloc ?_ _)); refine blk_put (cs := #[.int .i64 0, .int .i64 0]) ?_ 0 _ rfl; (with_reducible repeat (first | refine blk_drewN ?_ _ | refine blk_drew ?_ | refine blk_alloc ?_ _)); exact BK102.out) Tryd.underlying71 rfl (by kernel_rfl)) rfl ?_
                 exact ⟨by first | rfl | (simp [errW_none, errW_some] <;> rfl) | (simp [*, errW_none, errW_some] <;> rfl), by repeat (first | (with_reducible first | exact HB.out | apply below_alloc | apply pw_below_drewN | apply below_drew1 | refine below_set ?_ GE102.out | refine below_set ?_ GE103.out) | exact HB.out)⟩
                ·rw [if_neg c52] at H
                 have c52b0 : decide (126 < (rd l0 x6_34)) = false := decide_eq_false c52
                 clear c52
                 by_cases c56 : 1 ≤ (wrap64 (x6_34 + 1))
                 ·rw [if_pos c56] at H
                  have c56b0 := eq_true c56
                  have c56b1 : decide (1 ≤ (wrap64 (x6_34 + 1))) = true := decide_eq_true c56
                  by_cases c57 : (wrap64 (x6_34 + 1)) ≤ (l0.length : Int)
                  ·rw [if_pos c57] at H
                   have c57b0 := eq_true c57
                   have c57b1 : decide ((wrap64 (x6_34 + 1)) ≤ (l0.length : Int)) = true := decide_eq_true c57
                   replace H := Option.bind_eq_some_iff.mp H
                   obtain ⟨⟨t116, t117⟩, A580, H⟩ := H
                   replace H : (some (t116, t117, wrap64 (x6_34 + 1), 0)) = some (r1, r2, r3, r4) := H
                   have A58 := Aside0.mk A580
                   clear A580
                   simp only [Option.some.injEq, Prod.mk.injEq] at H
                   obtain ⟨rfl, rfl, rfl, rfl⟩ := H
                   have p113 : 0 ≤ (x6_34 : Int) := of_decide_eq_true (by first | (with_reducible assumption) | assumption)
                   have q113 : x6_34 < (l0.length : Int) := of_decide_eq_true (by first | (with_reducible assumption) | assumption)
                   obtain ⟨ad113, e113, hx113_0⟩ := Kd.at_int HR0.out x6_34 p113 q113
                   obtain rfl : ad104 = ad113 := (by injection e113)
                   replace hx113_0 := (HB.out.cell (World.block_lt_of_cell? w _ hx113_0)).trans hx113_0
                   replace p113 := eq_true p113
                   replace q113 := eq_true q113
                   have p114 : 0 ≤ (x6_34 : Int) := of_decide_eq_true (by first | (with_reducible assumption) | assumption)
                   have q114 : x6_34 < (l0.length : Int) := of_decide_eq_true (by first | (with_reducible assumption) | assumption)
                   obtain ⟨ad114, e114, hx114_0⟩ := Kd.at_int HR0.out x6_34 p114 q114
                   obtain rfl : ad104 = ad114 := (by injection e114)
                   replace hx114_0 := (HB.out.cell (World.block_lt_of_cell? w _ hx114_0)).trans hx114_0
                   replace p114 := eq_true p114
                   replace q114 := eq_true q114
                   obtain ⟨i059, hi059, _, hsz59, _⟩ := info_parts info5
                   obtain ⟨A59, hcut59, hA59, hC59⟩ := print_mid_of (P := Tryd.prog) (Value.int .u8) 0 22 5 .i64 .i64 Tryd.underlying22 hi059 hsz59 (some ad104) c0 l0 1 (wrap64 (x6_34 + 1)) (by omega) (by first | omega | exact of_decide_eq_true (by first | (with_reducible assumption) | assumption)) (of_decide_eq_true (by first | (with_reducible assumption) | assumption)) HC0.out
                   have HR115 := Aside0.mk (Kd.C_of_reads (h1 := fun _ => rfl) (hA59 _ (Kd.reads_of_C HR0.out)))
                   have HC115 := Aside0.mk hC59
                   clear hA59 hC59 hi059 hsz59
                   have hcv60 := Kd.C_string (P := Tryd.prog) (A := A59) (c := (c0 - 1)) Tryd.underlying22 Tryd.underlying5 Tryd.underlying9 (Kd.C_below HR115.out HB.out)
                   have hcw61 := Kd.C_string (P := Tryd.prog) (A := A59) (c := (c0 - 1)) Tryd.underlying22 Tryd.underlying5 Tryd.underlying9 (Kd.C_below HR115.out HB.out); (try simp only [List.length_drop, List.length_take] at hcw61)
                   have hm_hcw61 : (wrap64 (x6_34 + 1)).toNat ≤ l0.length := Int.toNat_le.mpr (of_decide_eq_true (by assumption))
                   rw [Nat.min_eq_left hm_hcw61] at hcw61
                   simp only [Int.reduceToNat] at hcw61
                   clear hm_hcw61
                   go_wp2_with (first | ((with_reducible refine gate_callee (f := 54) rfl ?_); refine goesL_ (some 117) rfl rfl Tryd.func54 (by kernel_rfl) rfl #[.string (strOfNums ((l0.take ((wrap64 (x6_34 + 1)) : Int).toNat).drop 1))] rfl (by (try simp only [List.map_toArray, List.map_cons, List.map_nil]); first | done | rfl | (simp only [List.length_drop, List.length_take]; rfl) | (simp only [List.drop_one]; rfl) | (simp [List.drop_one]; done)) ?_; (with_reducible refine (whispererref09_key.calls kj34 (strOfNums ((l0.take ((wrap64 (x6_34 + 1)) : Int).toNat).drop 1)) t116 t117 _ A58.out).mono ?_); rintro e w62 ⟨rfl, hb⟩; refine ⟨_, rfl, ?_⟩; have n0_ := Aside0.mk (blk_below (g := gb102) (o := .cells #[.int .i64 0, .int .i64 0] 71 (0, 0)) (by (with_reducible repeat (first | refine blk_drewN ?_ _ | refine blk_drew ?_ | refine blk_alloc ?_ _)); exact BK102.out) hb); have n1_ := Aside0.mk (blk_below (g := gb103) (o := .cells #[.int .i64 15, .int .i64 0] 71 (0, 0)) (by (with_reducible repeat (first | refine blk_drewN ?_ _ | refine blk_drew ?_ | refine blk_alloc ?_ _)); exact BK103.out) hb); have n2_ := Aside0.mk (below_step (by repeat (first | (with_reducible first | exact HB.out | apply below_alloc | apply pw_below_drewN | apply below_drew1 | refine below_set ?_ GE102.out | refine below_set ?_ GE103.out) | exact HB.out)) hb); clear BK102; clear BK103; clear HB; have BK102 := n0_; have BK103 := n1_; have HB := n2_; clear n0_ n1_ n2_; (try clear hb); (try clear hb2); (try clear hk); (try clear hi); have hnb63 := NB102_103.out; have hnc63 := NB103_102.out; have hcz64_0 : w62.cell? ⟨gb102, 0, none⟩ = some (.int .i64 0) := (blk_cell BK102.out 0).trans rfl; have hcz64_1 : w62.cell? ⟨gb102, 1, none⟩ = some (.int .i64 0) := (blk_cell BK102.out 1).trans rfl; have hfz64_0 := blk_frozen BK102.out 0; have hfz64_1 := blk_frozen BK102.out 1))
                   refine bodyPost_ret (results_ctt rfl _ _ gb102 71 #[.int .i64 t116, .int .i64 t117] (0, 0) _ rfl (by (with_reducible repeat (first | refine blk_drewN ?_ _ | refine blk_drew ?_ | refine blk_alloc ?_ _)); refine blk_put (cs := #[.int .i64 t116, .int .i64 0]) ?_ 1 _ rfl; (with_reducible repeat (first | refine blk_drewN ?_ _ | refine blk_drew ?_ | refine blk_alloc ?_ _)); refine blk_put (cs := #[.int .i64 0, .int .i64 0]) ?_ 0 _ rfl; (with_reducible repeat (first | refine blk_drewN ?_ _ | refine blk_drew ?_ | refine blk_alloc ?_ _)); exact BK102.out) Tryd.underlying71 rfl (by kernel_rfl)) rfl ?_
                   exact ⟨by first | rfl | (simp [errW_none, errW_some] <;> rfl) | (simp [*, errW_none, errW_some] <;> rfl), by repeat (first | (with_reducible first | exact HB.out | apply below_alloc | apply pw_below_drewN | apply below_drew1 | refine below_set ?_ GE102.out | refine below_set ?_ GE103.out) | exact HB.out)⟩
                  ·rw [if_neg c57] at H
                   exact absurd H (by simp)
                 ·rw [if_neg c56] at H
                  exact absurd H (by simp)
              ·rw [if_neg c47] at H
               exact absurd H (by simp)
             ·rw [if_neg c46] at H
              exact absurd H (by simp)
   ·rw [if_neg c9] at H
    have c9b0 : ((rd l0 0) == 27) = false := beq_eq_false_iff_ne.mpr c9
    have c9b1 : ((rd l0 0) != 27) = true := bne_iff_ne.mpr c9
    simp only [Option.some.injEq, Prod.mk.injEq] at H
    obtain ⟨rfl, rfl, rfl, rfl⟩ := H
    go_enter Tryd.func38, Tryd.ntmps38
    go_wp2_with (first | ((with_reducible refine gate_dst (N := 2) rfl ?_); (try (refine gate_guard (by rfl) ?_; dsimp only)); refine box_event ?hg (N := 2) ?hd (cs := #[.int .i64 0, .int .i64 0]) (t := 71) ?hr ?_; (case hd => rfl); (case hg => rfl); (case hr => first | (go_simp; done) | (go_simp; rfl) | (go_simp; congr <;> exact (Hand.or128 _).symm)); intro gb102 hg w65 hbox hb; have n0_ := Aside0.mk (below_step (by repeat (first | (with_reducible first | exact HB.out | apply below_alloc | apply pw_below_drewN | apply below_drew1) | exact HB.out)) hb); have n1_ := Aside0.mk (hbox); have n2_ := Aside0.mk ((by rw [hg]; exact (below_size (by repeat (first | (with_reducible first | exact HB.out | apply below_alloc | apply pw_below_drewN | apply below_drew1) | exact HB.out))) : w.heap.size ≤ gb102)); have n3_ := Aside0.mk ((by rw [hg]; exact (below_size (by repeat (first | (with_reducible first | exact HB.out | apply below_alloc | apply pw_below_drewN | apply below_drew1) | exact HB.out))) : w.heap.size ≤ gb102)); clear HB; have HB := n0_; have BK102 := n1_; have GW102 := n2_; have GE102 := n3_; clear n0_ n1_ n2_ n3_; clear hb hbox hg) | ((with_reducible refine gate_dst (N := 5) rfl ?_); (try (refine gate_guard (by rfl) ?_; dsimp only)); refine box_event ?hg (N := 5) ?hd (cs := #[.int .i64 0, .int .i64 0]) (t := 71) ?hr ?_; (case hd => rfl); (case hg => rfl); (case hr => first | (go_simp; done) | (go_simp; rfl) | (go_simp; congr <;> exact (Hand.or128 _).symm)); intro gb103 hg w66 hbox hb; have n0_ := Aside0.mk (blk_below (g := gb102) (o := .cells #[.int .i64 0, .int .i64 0] 71 (0, 0)) (by (with_reducible repeat (first | refine blk_drewN ?_ _ | refine blk_drew ?_ | refine blk_alloc ?_ _)); exact BK102.out) hb); have n1_ := Aside0.mk (below_step (by repeat (first | (with_reducible first | exact HB.out | apply below_alloc | apply pw_below_drewN | apply below_drew1 | refine below_set ?_ GE102.out) | exact HB.out)) hb); have n2_ := Aside0.mk (hbox); have n3_ := Aside0.mk ((by rw [hg]; exact (below_size (by repeat (first | (with_reducible first | exact HB.out | apply below_alloc | apply pw_below_drewN | apply below_drew1 | refine below_set ?_ GE102.out) | exact HB.out))) : w.heap.size ≤ gb103)); have n4_ := Aside0.mk ((by rw [hg]; exact (below_size (by repeat (first | (with_reducible first | exact HB.out | apply below_alloc | apply pw_below_drewN | apply below_drew1 | refine below_set ?_ GE102.out) | exact HB.out))) : w.heap.size ≤ gb103)); have n5_ := Aside0.mk ((by rw [hg]; exact Nat.ne_of_lt (blk_lt (g := gb102) (o := .cells #[.int .i64 0, .int .i64 0] 71 (0, 0)) (by (with_reducible repeat (first | refine blk_drewN ?_ _ | refine blk_drew ?_ | refine blk_alloc ?_ _)); exact BK102.out)) : gb102 ≠ gb103)); have n6_ := Aside0.mk ((by rw [hg]; exact Nat.ne_of_gt (blk_lt (g := gb102) (o := .cells #[.int .i64 0, .int .i64 0] 71 (0, 0)) (by (with_reducible repeat (first | refine blk_drewN ?_ _ | refine blk_drew ?_ | refine blk_alloc ?_ _)); exact BK102.out)) : gb103 ≠ gb102)); clear BK102; clear HB; have BK102 := n0_; have HB := n1_; have BK103 := n2_; have GW103 := n3_; have GE103 := n4_; have NB102_103 := n5_; have NB103_102 := n6_; clear n0_ n1_ n2_ n3_ n4_ n5_ n6_; clear hb hbox hg; have hnb67 := NB103_102.out; have hnc67 := NB102_103.out; have hcz68_0 : w66.cell? ⟨gb103, 0, none⟩ = some (.int .i64 0) := (blk_cell BK103.out 0).trans rfl; have hcz68_1 : w66.cell? ⟨gb103, 1, none⟩ = some (.int .i64 0) := (blk_cell BK103.out 1).trans rfl; have hfz68_0 := blk_frozen BK103.out 0; have hfz68_1 := blk_frozen BK103.out 1; have p104 : 0 ≤ (0 : Int) := (by omega); have q104 : 0 < (l0.length : Int) := of_decide_eq_true (by first | (with_reducible assumption) | assumption); obtain ⟨ad104, e104, hx104_0⟩ := Kd.at_int HR0.out 0 p104 q104; cases e104; have qi104 : (0 < l0.length) = True := eq_true (by omega); (try rw [show ((0 : Int)).toNat = 0 from rfl] at hx104_0); (try rw [Addr.add_zero'] at hx104_0); have hn104_0 : ad104.block ≠ gb103 := Nat.ne_of_lt (Nat.lt_of_lt_of_le (by have := World.block_lt_of_cell? _ _ hx104_0; first | rwa [add_block] at this | exact this) GW103.out); have hn104_1 : ad104.block ≠ gb103 := Nat.ne_of_lt (Nat.lt_of_lt_of_le (by have := World.block_lt_of_cell? _ _ hx104_0; first | rwa [add_block] at this | exact this) GW103.out); replace hx104_0 := (HB.out.cell (World.block_lt_of_cell? w _ hx104_0)).trans hx104_0; replace hx104_0 := (cell_far (p := ⟨gb103, 0, none⟩) (by first | (rw [add_block]; exact hn104_0) | (show (Addr.add _ _).block ≠ _; rw [add_block]; exact hn104_0) | exact hn104_0) (.int .i64 15)).trans hx104_0; replace hx104_0 := (cell_far (p := ⟨gb103, 1, none⟩) (by first | (rw [add_block]; exact hn104_1) | (show (Addr.add _ _).block ≠ _; rw [add_block]; exact hn104_1) | exact hn104_1) (.int .i64 0)).trans hx104_0; clear hn104_0; clear hn104_1; replace p104 := eq_true p104; replace q104 := eq_true q104; have hcz69_0 : w66.cell? ⟨gb102, 0, none⟩ = some (.int .i64 0) := (blk_cell BK102.out 0).trans rfl; have hcz69_1 : w66.cell? ⟨gb102, 1, none⟩ = some (.int .i64 0) := (blk_cell BK102.out 1).trans rfl; have hfz69_0 := blk_frozen BK102.out 0; have hfz69_1 := blk_frozen BK102.out 1))
    refine bodyPost_ret (results_ctt rfl _ _ gb102 71 #[.int .i64 0, .int .i64 0] (0, 0) _ rfl (by (with_reducible repeat (first | refine blk_drewN ?_ _ | refine blk_drew ?_ | refine blk_alloc ?_ _)); refine blk_put (cs := #[.int .i64 0, .int .i64 0]) ?_ 1 _ rfl; (with_reducible repeat (first | refine blk_drewN ?_ _ | refine blk_drew ?_ | refine blk_alloc ?_ _)); refine blk_put (cs := #[.int .i64 0, .int .i64 0]) ?_ 0 _ rfl; (with_reducible repeat (first | refine blk_drewN ?_ _ | refine blk_drew ?_ | refine blk_alloc ?_ _)); refine blk_far ?_ NB102_103.out _; (with_reducible repeat (first | refine blk_drewN ?_ _ | refine blk_drew ?_ | refine blk_alloc ?_ _)); refine blk_far ?_ NB102_103.out _; (with_reducible repeat (first | refine blk_drewN ?_ _ | refine blk_drew ?_ | refine blk_alloc ?_ _)); exact BK102.out) Tryd.underlying71 rfl (by kernel_rfl)) rfl ?_
    exact ⟨by first | rfl | (simp [errW_none, errW_some] <;> rfl) | (simp [*, errW_none, errW_some] <;> rfl), by repeat (first | (with_reducible first | exact HB.out | apply below_alloc | apply pw_below_drewN | apply below_drew1 | refine below_set ?_ GE102.out | refine below_set ?_ GE103.out) | exact HB.out)⟩
  ·rw [if_neg c8] at H
   exact absurd H (by simp)

end Go.Proofs.YtmdeehblmkpddaaDoor.PNextR
