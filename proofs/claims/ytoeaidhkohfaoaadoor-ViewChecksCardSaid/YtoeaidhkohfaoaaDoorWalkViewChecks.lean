/- ViewChecks: a prompt that may be is rendered of every count and place that may be; one that may not be of none. -/
import Derived.Test.YtoeaidhkohfaoaaDoorPViewChecksx1
import Derived.Test.YtoeaidhkohfaoaaDoorHandTabOf13
namespace Go.Proofs.YtoeaidhkohfaoaaDoor.Pure
open Go.RowKit Go.Proofs.YtoeaidhkohfaoaaDoor.PViewChecks Go.Proofs.YtoeaidhkohfaoaaDoor.Hand Go.Proofs.YtoeaidhkohfaoaaDoorW.PrintWords Go.Proofs.YtoeaidhkohfaoaaDoorW.PrintLast
set_option linter.unusedVariables false
set_option linter.unusedSimpArgs false

theorem alive_of (k : Nat) : whispererlaw13_alive.f k = some true := by
  unfold whispererlaw13_alive.f view_Render.f
  have h1 : checkI (⟨#[112, 119, 58, 32]⟩ : ByteArray) 1 0 = 0 := by decide +kernel
  have h2 : checkI (⟨#[112, 119, 58, 32]⟩ : ByteArray) 2 0 = 0 := by decide +kernel
  have h3 : rightB 1 3 1 = true := by decide +kernel
  have h4 : rightB 2 3 1 = true := by decide +kernel
  have h5 : (strOfNums (renderL (⟨#[112, 119, 58, 32]⟩ : ByteArray) 1 3 1)).toList = ([13, 112, 119, 58, 32, 42, 42, 42, 27, 91, 75, 27, 91, 50, 68] : List UInt8) := by decide +kernel
  have h6 : (strOfNums (renderL (⟨#[112, 119, 58, 32]⟩ : ByteArray) 2 3 1)).toList = ([13, 112, 119, 58, 32, 42, 42, 42, 42, 42, 42, 42, 42, 27, 91, 75] : List UInt8) := by decide +kernel
  have hs : (⟨#[112, 119, 58, 32]⟩ : ByteArray).size ≤ 9223372036854775807 := by decide
  rw [if_pos hs, if_pos hs, h1, h2, h3, h4]
  simp [h5, h6]
theorem alive_calls (w : World) (HT : TabV w) : Calls Tryd.prog 8 #[] w fun e w' => e = .returned (.bool true) ∧ Below w.heap.size w w' :=
  whispererlaw13_alive.calls 9 true w HT (alive_of 9)

end Go.Proofs.YtoeaidhkohfaoaaDoor.Pure
namespace Go.Proofs.YtoeaidhkohfaoaaDoor.Hand
open Go.RowKit Go.Proofs.YtoeaidhkohfaoaaDoor.Pure Go.Proofs.YtoeaidhkohfaoaaDoorW.PrintWords Go.Proofs.YtoeaidhkohfaoaaDoorW.PrintLast
set_option linter.unusedVariables false
set_option linter.unusedSimpArgs false

def ChecksOk (s : ByteArray) (mode room a b : Int) (w : World) : Prop :=
  Calls Tryd.prog 6 #[.agg #[.string s, .int .i64 mode, .int .i64 room], .agg #[.int .u16 a, .int .u16 b]] w fun e w' => e = .returned (.bool true) ∧ Below w.heap.size w w'
theorem boxes_below (w : World) (o p : Obj) : Below w.heap.size w ((w.alloc o).alloc p) := below_alloc (below_alloc (Below.refl _ _) _) _

set_option maxHeartbeats 1000000 in
set_option maxRecDepth 100000 in
theorem checks_long (s : ByteArray) (mode room a b : Int) (w : World) (HT : TabV w) (h : 2000 < s.size) : ChecksOk s mode room a b w := by
  unfold ChecksOk
  have hl : (2000 : Int) < (s.size : Int) := by omega
  have z := boxes_below w (.cells #[.string s, .int .i64 mode, .int .i64 room] 23) (.cells #[.int .u16 a, .int .u16 b] 42)
  have ha := alive_calls _ (HT.below z)
  clear h
  go_enter Tryd.func6, Tryd.ntmps6
  go_wp2_with (fail)
  refine ha.mono ?_
  rintro e w1 ⟨rfl, hb⟩
  go_wp2_with (fail)
  go_ret
  exact ⟨rfl, z.trans (hb.mono z.size)⟩

set_option maxHeartbeats 1000000 in
set_option maxRecDepth 100000 in
theorem checks_ok (s : ByteArray) (mode room a b : Int) (n p : Nat) (ha : 0 ≤ a ∧ a ≤ 65535) (hb : 0 ≤ b ∧ b ≤ 65535) (hn : Int.tmod a 1025 = n) (hp : Int.tmod b ((n : Int) + 1) = p) (hn2 : n ≤ 1024) (hp2 : p ≤ n) (w : World) (HT : TabV w) (h : s.size ≤ 2000) (hc : checkI s mode room = 0) (L : Nat) (hlen : (renderL s mode n p).length = L + 1) (h13 : (renderL s mode n p).getD 0 0 = 13)
    (hf : view_Render.f 0 s mode room n p = some (renderL s mode n p, 0)) (hg : view_Render.f 0 s mode room n ((n : Int) + 1) = some ([], 3)) : ChecksOk s mode room a b w := by
  unfold ChecksOk
  have hl : decide ((2000 : Int) < (s.size : Int)) = false := decide_eq_false (by omega)
  have z := boxes_below w (.cells #[.string s, .int .i64 mode, .int .i64 room] 23) (.cells #[.int .u16 a, .int .u16 b] 42)
  have wa : IntKind.i64.wrap a = a := by unfold IntKind.wrap; simp [IntKind.bits]; omega
  have wb : IntKind.i64.wrap b = b := by unfold IntKind.wrap; simp [IntKind.bits]; omega
  have wn : IntKind.i64.wrap ((n : Int) + 1) = (n : Int) + 1 := by unfold IntKind.wrap; simp [IntKind.bits]; omega
  have nz : ((n : Int) + 1 == 0) = false := by simp; omega
  have hs63 : s.size ≤ 9223372036854775807 := by omega
  clear h
  go_enter Tryd.func6, Tryd.ntmps6
  have hblk := (heap_alloc_old (w.alloc (.cells #[.string s, .int .i64 mode, .int .i64 room] 23)) (.cells #[.int .u16 a, .int .u16 b] 42) (by simp)).trans (heap_alloc_new w (.cells #[.string s, .int .i64 mode, .int .i64 room] 23))
  have hk := check_ok s mode room hs63 _ (HT.u8.below z)
  rw [hc] at hk
  go_wp2_with (fail)
  refine hk.mono ?_
  rintro e w1 ⟨rfl, hb1⟩
  have k0 := cell_stays (blk_cell hblk 0) hb1
  have k1 := cell_stays (blk_cell hblk 1) hb1
  have k2 := cell_stays (blk_cell hblk 2) hb1
  have z1 := Aside0.mk (z.trans (hb1.mono z.size))
  clear hb1 hblk hk z
  have r1 := view_Render.calls 0 s mode room (n : Int) (p : Int) _ _ w1 (HT.below z1.out) hf
  go_wp2_with (fail)
  refine r1.mono ?_
  rintro e w2 ⟨v0, rfl, hR, hb2⟩
  obtain ⟨A, c, rfl, _, hC⟩ := Kd.R_reads hR
  have k0' := cell_stays k0 hb2
  have k1' := cell_stays k1 hb2
  have k2' := cell_stays k2 hb2
  have z2 := Aside0.mk (z1.out.trans (hb2.mono z1.out.size))
  have r2 := view_Render.calls 0 s mode room (n : Int) ((n : Int) + 1) _ _ w2 (HT.below z2.out) hg
  obtain ⟨ad, rfl, hcell⟩ := (Kd.reads_of_C (d := (0 : Int)) hC).2.2 (by rw [hlen]; omega)
  have q0 := hcell 0 (by rw [hlen]; omega)
  clear hR hC hcell k0 k1 k2 z1 r1 hf hg hb2
  go_wp2_with (fail)
  refine r2.mono ?_
  rintro e w3 ⟨v3, rfl, hR3, hb3⟩
  have q1 := cell_stays q0 hb3
  have z3 := Aside0.mk (z2.out.trans (hb3.mono z2.out.size))
  have ha := alive_calls w3 (HT.below z3.out)
  clear q0 hR3 hb3 z2 r2 k0' k1' k2'
  rw [h13, Addr.add_zero'] at q1
  go_wp2_with (fail)
  refine ha.mono ?_
  rintro e w4 ⟨rfl, hb4⟩
  have q2 := cell_stays q1 hb4
  have hL : (0 : Int) < ((L + 1 : Nat) : Int) := by omega
  have z4 := Aside0.mk (z3.out.trans (hb4.mono z3.out.size))
  clear hb4 q1 z3
  go_wp2_with (fail)
  go_ret
  exact ⟨rfl, z4.out⟩

set_option maxHeartbeats 1000000 in
set_option maxRecDepth 100000 in
theorem checks_bad (s : ByteArray) (mode room a b : Int) (n p : Nat) (c : Int) (ha : 0 ≤ a ∧ a ≤ 65535) (hb : 0 ≤ b ∧ b ≤ 65535) (hn : Int.tmod a 1025 = n) (hp : Int.tmod b ((n : Int) + 1) = p) (hn2 : n ≤ 1024) (hp2 : p ≤ n) (w : World) (HT : TabV w) (h : s.size ≤ 2000) (hc : checkI s mode room = c) (hc0 : c ≠ 0)
    (hf : view_Render.f 0 s mode room n p = some ([], c)) (hg : view_Render.f 0 s mode room n ((n : Int) + 1) = some ([], c)) : ChecksOk s mode room a b w := by
  unfold ChecksOk
  have hl : decide ((2000 : Int) < (s.size : Int)) = false := decide_eq_false (by omega)
  have z := boxes_below w (.cells #[.string s, .int .i64 mode, .int .i64 room] 23) (.cells #[.int .u16 a, .int .u16 b] 42)
  have wa : IntKind.i64.wrap a = a := by unfold IntKind.wrap; simp [IntKind.bits]; omega
  have wb : IntKind.i64.wrap b = b := by unfold IntKind.wrap; simp [IntKind.bits]; omega
  have wn : IntKind.i64.wrap ((n : Int) + 1) = (n : Int) + 1 := by unfold IntKind.wrap; simp [IntKind.bits]; omega
  have nz : ((n : Int) + 1 == 0) = false := by simp; omega
  have hs63 : s.size ≤ 9223372036854775807 := by omega
  have f0 : (c == 0) = false := by simpa using hc0
  have f1 : (c != 0) = true := by simpa using hc0
  clear h
  go_enter Tryd.func6, Tryd.ntmps6
  have hblk := (heap_alloc_old (w.alloc (.cells #[.string s, .int .i64 mode, .int .i64 room] 23)) (.cells #[.int .u16 a, .int .u16 b] 42) (by simp)).trans (heap_alloc_new w (.cells #[.string s, .int .i64 mode, .int .i64 room] 23))
  have hk := check_ok s mode room hs63 _ (HT.u8.below z)
  rw [hc] at hk
  go_wp2_with (fail)
  refine hk.mono ?_
  rintro e w1 ⟨rfl, hb1⟩
  have k0 := cell_stays (blk_cell hblk 0) hb1
  have k1 := cell_stays (blk_cell hblk 1) hb1
  have k2 := cell_stays (blk_cell hblk 2) hb1
  have z1 := Aside0.mk (z.trans (hb1.mono z.size))
  clear hb1 hblk hk z
  have r1 := view_Render.calls 0 s mode room (n : Int) (p : Int) _ _ w1 (HT.below z1.out) hf
  go_wp2_with (fail)
  refine r1.mono ?_
  rintro e w2 ⟨v0, rfl, hR, hb2⟩
  obtain ⟨A, cc, rfl, _, hC⟩ := Kd.R_reads hR
  have k0' := cell_stays k0 hb2
  have k1' := cell_stays k1 hb2
  have k2' := cell_stays k2 hb2
  have z2 := Aside0.mk (z1.out.trans (hb2.mono z1.out.size))
  have r2 := view_Render.calls 0 s mode room (n : Int) ((n : Int) + 1) _ _ w2 (HT.below z2.out) hg
  clear hR hC k0 k1 k2 z1 r1 hf hg hb2
  go_wp2_with (fail)
  refine r2.mono ?_
  rintro e w3 ⟨v3, rfl, hR3, hb3⟩
  have z3 := Aside0.mk (z2.out.trans (hb3.mono z2.out.size))
  have ha := alive_calls w3 (HT.below z3.out)
  clear hR3 hb3 z2 r2 k0' k1' k2'
  go_wp2_with (fail)
  refine ha.mono ?_
  rintro e w4 ⟨rfl, hb4⟩
  have z4 := Aside0.mk (z3.out.trans (hb4.mono z3.out.size))
  clear hb4 z3
  go_wp2_with (fail)
  go_ret
  exact ⟨rfl, z4.out⟩

theorem check_mode {s : ByteArray} {mode room : Int} (h : checkI s mode room = 0) : 0 ≤ mode ∧ mode < 3 := by
  unfold checkI at h
  repeat' split at h
  all_goals omega
theorem ViewChecks_walk (a0_0 : ByteArray) (a0_1 a0_2 a1_0 a1_1 : Int) (w0_1 : (Lit.int .i64 a0_1).wf = true) (w0_2 : (Lit.int .i64 a0_2).wf = true) (w1_0 : (Lit.int .u16 a1_0).wf = true) (w1_1 : (Lit.int .u16 a1_1).wf = true) (w : World) (HT : TabV w) :
    Calls Tryd.prog 6 #[.agg #[.string a0_0, .int .i64 a0_1, .int .i64 a0_2], .agg #[.int .u16 a1_0, .int .u16 a1_1]] w fun e w' => e = .returned (.bool true) ∧ Below w.heap.size w w' := by
  show ChecksOk a0_0 a0_1 a0_2 a1_0 a1_1 w
  have b1 : 0 ≤ a1_0 ∧ a1_0 ≤ 65535 := by
    have : (decide (IntKind.u16.min ≤ a1_0) && decide (a1_0 ≤ IntKind.u16.max)) = true := w1_0
    rw [show IntKind.u16.min = 0 by decide, show IntKind.u16.max = 65535 by decide] at this
    simpa using this
  have b2 : 0 ≤ a1_1 ∧ a1_1 ≤ 65535 := by
    have : (decide (IntKind.u16.min ≤ a1_1) && decide (a1_1 ≤ IntKind.u16.max)) = true := w1_1
    rw [show IntKind.u16.min = 0 by decide, show IntKind.u16.max = 65535 by decide] at this
    simpa using this
  by_cases hl : 2000 < a0_0.size
  · exact checks_long _ _ _ _ _ w HT hl
  · obtain ⟨n, hn⟩ : ∃ n : Nat, Int.tmod a1_0 1025 = n := ⟨(a1_0 % 1025).toNat, by rw [Int.tmod_eq_emod_of_nonneg b1.1]; omega⟩
    have hn2 : n ≤ 1024 := by rw [Int.tmod_eq_emod_of_nonneg b1.1] at hn; omega
    have h1 := Int.emod_nonneg a1_1 (show (n : Int) + 1 ≠ 0 by omega)
    have h2 := Int.emod_lt_of_pos a1_1 (show 0 < (n : Int) + 1 by omega)
    obtain ⟨p, hp⟩ : ∃ p : Nat, Int.tmod a1_1 ((n : Int) + 1) = p := ⟨(a1_1 % ((n : Int) + 1)).toNat, by rw [Int.tmod_eq_emod_of_nonneg b2.1]; omega⟩
    have hp2 : p ≤ n := by rw [Int.tmod_eq_emod_of_nonneg b2.1] at hp; omega
    have hs : a0_0.size ≤ 9223372036854775807 := by omega
    by_cases hc : checkI a0_0 a0_1 a0_2 = 0
    · have hm := check_mode hc
      have r1 : rightB a0_1 n p = true := by unfold rightB; simp; omega
      have r2 : rightB a0_1 n ((n : Int) + 1) = false := by unfold rightB; simp; omega
      have hL : ∃ L, (renderL a0_0 a0_1 n p).length = L + 1 := ⟨(renderL a0_0 a0_1 n p).length - 1, by unfold renderL; simp⟩
      obtain ⟨L, hL⟩ := hL
      refine checks_ok a0_0 a0_1 a0_2 a1_0 a1_1 n p b1 b2 hn hp hn2 hp2 w HT (by omega) hc L hL ?_ ?_ ?_
      · unfold renderL
        simp
      · unfold view_Render.f
        rw [if_pos hs, if_neg (fun h => h hc), if_pos r1]
      · unfold view_Render.f
        rw [if_pos hs, if_neg (fun h => h hc), if_neg (by rw [r2]; decide)]
    · refine checks_bad a0_0 a0_1 a0_2 a1_0 a1_1 n p _ b1 b2 hn hp hn2 hp2 w HT (by omega) rfl hc ?_ ?_
      · unfold view_Render.f
        rw [if_pos hs, if_pos hc]
      · unfold view_Render.f
        rw [if_pos hs, if_pos hc]

end Go.Proofs.YtoeaidhkohfaoaaDoor.Hand
