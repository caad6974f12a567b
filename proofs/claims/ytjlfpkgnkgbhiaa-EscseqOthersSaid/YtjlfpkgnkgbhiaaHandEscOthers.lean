/- EscseqOthers, walked by hand: one walk a class of the byte. -/
import Derived.Test.YtjlfpkgnkgbhiaaHandEscAlive
namespace Go.Proofs.Ytjlfpkgnkgbhiaa.Hand
open Go.RowKit Go.Proofs.YtjlfpkgnkgbhiaaW.PrintWords Go.Proofs.YtjlfpkgnkgbhiaaW.PrintLast
set_option linter.unusedVariables false
set_option linter.unusedSimpArgs false

theorem n1_go (c : Int) (h : c = 91 ∨ c = 79) : nextL [27, c] = (0, 0, 2, 7) := by
  unfold nextL
  rw [if_neg (by simp), if_neg (fun h => h rfl), if_neg (fun x => by rcases h with h | h; exact x.2.1 h; exact x.2.2 h)]
  rfl
theorem n1_no (c : Int) (h1 : c ≠ 91) (h2 : c ≠ 79) : nextL [27, c] = (15, 0, 1, 0) := by
  unfold nextL
  rw [if_neg (by simp), if_neg (fun h => h rfl), if_pos ⟨by simp, h1, h2⟩]
theorem n2_end (c : Int) (h : 64 ≤ c ∧ c ≤ 126) : ∃ q, nextL [27, 79, c] = (q, 0, 3, 0) := by
  unfold nextL
  rw [if_neg (by simp), if_neg (fun h => h rfl), if_neg (fun x => x.2.2 rfl)]
  refine ⟨(kindL (strOfNums [27, 79, c]).data.toList).getD 15, (nextGo_succ [27, 79, c] 0 2 false).trans ?_⟩
  rw [show ([27, 79, c] : List Int).getD 2 0 = c from rfl, if_pos h]
  rfl
theorem n2_no (c : Int) (h : ¬ (64 ≤ c ∧ c ≤ 126)) : nextL [27, 79, c] = (15, 0, 2, 0) := by
  unfold nextL
  rw [if_neg (by simp), if_neg (fun h => h rfl), if_neg (fun x => x.2.2 rfl)]
  refine (nextGo_succ [27, 79, c] 0 2 false).trans ?_
  rw [show ([27, 79, c] : List Int).getD 2 0 = c from rfl, if_neg h, if_pos (.inl rfl)]
  rfl
theorem n3_end (c : Int) (h : 64 ≤ c ∧ c ≤ 126) : ∃ q, nextL [27, 91, c] = (q, 0, 3, 0) := by
  unfold nextL
  rw [if_neg (by simp), if_neg (fun h => h rfl), if_neg (fun x => x.2.1 rfl)]
  refine ⟨(kindL (strOfNums [27, 91, c]).data.toList).getD 15, (nextGo_succ [27, 91, c] 0 2 false).trans ?_⟩
  rw [show ([27, 91, c] : List Int).getD 2 0 = c from rfl, if_pos h]
  rfl
theorem n3_more (c : Int) (h : 32 ≤ c ∧ c ≤ 63) : nextL [27, 91, c] = (0, 0, 3, 7) := by
  unfold nextL
  rw [if_neg (by simp), if_neg (fun h => h rfl), if_neg (fun x => x.2.1 rfl)]
  refine (nextGo_succ [27, 91, c] 0 2 false).trans ?_
  have e : ([27, 91, c] : List Int).getD 2 0 = c := rfl
  rw [e, if_neg (by omega), if_neg (by simp)]
  by_cases hp : 48 ≤ c
  · rw [if_pos ⟨hp, h.2, rfl⟩]; rfl
  · rw [if_neg (by omega), if_pos (by omega)]; rfl
theorem n3_no (c : Int) (h : c < 32 ∨ 126 < c) : nextL [27, 91, c] = (15, 0, 2, 0) := by
  unfold nextL
  rw [if_neg (by simp), if_neg (fun h => h rfl), if_neg (fun x => x.2.1 rfl)]
  refine (nextGo_succ [27, 91, c] 0 2 false).trans ?_
  have e : ([27, 91, c] : List Int).getD 2 0 = c := rfl
  rw [e, if_neg (by omega), if_neg (by simp), if_neg (by omega), if_neg (by omega)]
  rfl

/-- The contract at a list, in the form that the walk meets. -/
theorem next_at (l : List Int) (r : Int × Int × Int × Int) (h : nextL l = r) (A : Option Addr) (c : Nat) (hc0 : l.length ≤ c) (W : World) (hc : Kd.C (Kd.int .u8) W A l.length l) :
    Calls Try.prog 10 #[.slice A l.length c] W fun e w' => e = .returned (.tuple #[.agg #[.int .i64 r.1, .int .i64 r.2.1], .int .i64 r.2.2.1, .int .i64 r.2.2.2]) ∧ Below W.heap.size W w' :=
  escseq_Next.calls A c l r.1 r.2.1 r.2.2.1 r.2.2.2 W hc hc0 (congrArg some h)

set_option maxHeartbeats 1000000 in
set_option maxRecDepth 100000 in
theorem others_a  (w : World) : Calls Try.prog 4 #[.int .u8 91] w fun e w' => e = .returned (.bool true) ∧ Below w.heap.size w w' := by
  obtain ⟨q2, h2⟩ := n2_end 91 (by omega)
  obtain ⟨q3, h3⟩ := n3_end 91 (by omega)
  have N1 := Lib.hid (next_at [27, 91] (0, 0, 2, 7) (n1_go 91 (.inl rfl)))
  have N2 := Lib.hid (next_at [27, 79, 91] (q2, 0, 3, 0) (h2))
  have N3 := Lib.hid (next_at [27, 91, 91] (q3, 0, 3, 0) (h3))
  clear h2 h3
  go_enter Try.func4, Try.ntmps4
  go_wp2_with (fail)
  refine (N1.out _ 2 (by simp) _ (by exact lit_reads _ [27, 91] _ _ (by simp))).mono ?_
  rintro e w1 ⟨rfl, b1⟩
  have B1 := Lib.hid b1
  clear b1
  go_wp2_with (fail)
  refine (N2.out _ 3 (by simp) _ (by have q := lit_reads (w1.alloc (.cells #[.int .i64 0, .int .i64 0] 25)) [27, 79, 91] 5 (0, 0) (by simp); rw [World.size_alloc] at q; exact q)).mono ?_
  rintro e w2 ⟨rfl, b2⟩
  have B2 := Lib.hid b2
  clear b2
  go_wp2_with (fail)
  refine (N3.out _ 3 (by simp) _ (by have q := lit_reads (w2.alloc (.cells #[.int .i64 q2, .int .i64 0] 25)) [27, 91, 91] 5 (0, 0) (by simp); rw [World.size_alloc] at q; exact q)).mono ?_
  rintro e w3 ⟨rfl, b3⟩
  have B3 := Lib.hid b3
  clear b3
  go_wp2_with (fail)
  refine (whispererlaw09_alive.calls true _ rfl).mono ?_
  rintro e w4 ⟨rfl, b4⟩
  have B4 := Lib.hid b4
  clear b4
  go_wp2_with (fail)
  go_ret
  refine ⟨by first | rfl | (simp; omega), ?_⟩
  have z1 : Below w.heap.size w w1 := ((Below.refl w.heap.size w).alloc (Nat.le_refl _) _).trans (B1.out.mono (by simp))
  have z2 : Below w.heap.size w w2 := ((z1.alloc z1.size _).alloc (by have := z1.size; simp; omega) _).trans (B2.out.mono (by have := z1.size; simp; omega))
  have z3 : Below w.heap.size w w3 := ((z2.alloc z2.size _).alloc (by have := z2.size; simp; omega) _).trans (B3.out.mono (by have := z2.size; simp; omega))
  exact (z3.alloc z3.size _).trans (B4.out.mono (by have := z3.size; simp; omega))

set_option maxHeartbeats 1000000 in
set_option maxRecDepth 100000 in
theorem others_b  (w : World) : Calls Try.prog 4 #[.int .u8 79] w fun e w' => e = .returned (.bool true) ∧ Below w.heap.size w w' := by
  obtain ⟨q2, h2⟩ := n2_end 79 (by omega)
  obtain ⟨q3, h3⟩ := n3_end 79 (by omega)
  have N1 := Lib.hid (next_at [27, 79] (0, 0, 2, 7) (n1_go 79 (.inr rfl)))
  have N2 := Lib.hid (next_at [27, 79, 79] (q2, 0, 3, 0) (h2))
  have N3 := Lib.hid (next_at [27, 91, 79] (q3, 0, 3, 0) (h3))
  clear h2 h3
  go_enter Try.func4, Try.ntmps4
  go_wp2_with (fail)
  refine (N1.out _ 2 (by simp) _ (by exact lit_reads _ [27, 79] _ _ (by simp))).mono ?_
  rintro e w1 ⟨rfl, b1⟩
  have B1 := Lib.hid b1
  clear b1
  go_wp2_with (fail)
  refine (N2.out _ 3 (by simp) _ (by have q := lit_reads (w1.alloc (.cells #[.int .i64 0, .int .i64 0] 25)) [27, 79, 79] 5 (0, 0) (by simp); rw [World.size_alloc] at q; exact q)).mono ?_
  rintro e w2 ⟨rfl, b2⟩
  have B2 := Lib.hid b2
  clear b2
  go_wp2_with (fail)
  refine (N3.out _ 3 (by simp) _ (by have q := lit_reads (w2.alloc (.cells #[.int .i64 q2, .int .i64 0] 25)) [27, 91, 79] 5 (0, 0) (by simp); rw [World.size_alloc] at q; exact q)).mono ?_
  rintro e w3 ⟨rfl, b3⟩
  have B3 := Lib.hid b3
  clear b3
  go_wp2_with (fail)
  refine (whispererlaw09_alive.calls true _ rfl).mono ?_
  rintro e w4 ⟨rfl, b4⟩
  have B4 := Lib.hid b4
  clear b4
  go_wp2_with (fail)
  go_ret
  refine ⟨by first | rfl | (simp; omega), ?_⟩
  have z1 : Below w.heap.size w w1 := ((Below.refl w.heap.size w).alloc (Nat.le_refl _) _).trans (B1.out.mono (by simp))
  have z2 : Below w.heap.size w w2 := ((z1.alloc z1.size _).alloc (by have := z1.size; simp; omega) _).trans (B2.out.mono (by have := z1.size; simp; omega))
  have z3 : Below w.heap.size w w3 := ((z2.alloc z2.size _).alloc (by have := z2.size; simp; omega) _).trans (B3.out.mono (by have := z2.size; simp; omega))
  exact (z3.alloc z3.size _).trans (B4.out.mono (by have := z3.size; simp; omega))

set_option maxHeartbeats 1000000 in
set_option maxRecDepth 100000 in
theorem others_c (c : Int) (h91 : c ≠ 91) (h79 : c ≠ 79) (hA : 64 ≤ c) (hB : c ≤ 126) (w : World) : Calls Try.prog 4 #[.int .u8 c] w fun e w' => e = .returned (.bool true) ∧ Below w.heap.size w w' := by
  obtain ⟨q2, h2⟩ := n2_end c ⟨hA, hB⟩
  obtain ⟨q3, h3⟩ := n3_end c ⟨hA, hB⟩
  have N1 := Lib.hid (next_at [27, c] (15, 0, 1, 0) (n1_no c h91 h79))
  have N2 := Lib.hid (next_at [27, 79, c] (q2, 0, 3, 0) (h2))
  have N3 := Lib.hid (next_at [27, 91, c] (q3, 0, 3, 0) (h3))
  have f1 : (c == 91) = false := beq_eq_false_iff_ne.mpr h91
  have f2 : (c == 79) = false := beq_eq_false_iff_ne.mpr h79
  clear h2 h3 h91 h79
  go_enter Try.func4, Try.ntmps4
  go_wp2_with (fail)
  refine (N1.out _ 2 (by simp) _ (by exact lit_reads _ [27, c] _ _ (by simp))).mono ?_
  rintro e w1 ⟨rfl, b1⟩
  have B1 := Lib.hid b1
  clear b1
  go_wp2_with (fail)
  refine (N2.out _ 3 (by simp) _ (by have q := lit_reads (w1.alloc (.cells #[.int .i64 15, .int .i64 0] 25)) [27, 79, c] 5 (0, 0) (by simp); rw [World.size_alloc] at q; exact q)).mono ?_
  rintro e w2 ⟨rfl, b2⟩
  have B2 := Lib.hid b2
  clear b2
  go_wp2_with (fail)
  refine (N3.out _ 3 (by simp) _ (by have q := lit_reads (w2.alloc (.cells #[.int .i64 q2, .int .i64 0] 25)) [27, 91, c] 5 (0, 0) (by simp); rw [World.size_alloc] at q; exact q)).mono ?_
  rintro e w3 ⟨rfl, b3⟩
  have B3 := Lib.hid b3
  clear b3
  go_wp2_with (fail)
  refine (whispererlaw09_alive.calls true _ rfl).mono ?_
  rintro e w4 ⟨rfl, b4⟩
  have B4 := Lib.hid b4
  clear b4
  go_wp2_with (fail)
  go_ret
  refine ⟨by first | rfl | (simp; omega), ?_⟩
  have z1 : Below w.heap.size w w1 := ((Below.refl w.heap.size w).alloc (Nat.le_refl _) _).trans (B1.out.mono (by simp))
  have z2 : Below w.heap.size w w2 := ((z1.alloc z1.size _).alloc (by have := z1.size; simp; omega) _).trans (B2.out.mono (by have := z1.size; simp; omega))
  have z3 : Below w.heap.size w w3 := ((z2.alloc z2.size _).alloc (by have := z2.size; simp; omega) _).trans (B3.out.mono (by have := z2.size; simp; omega))
  exact (z3.alloc z3.size _).trans (B4.out.mono (by have := z3.size; simp; omega))

set_option maxHeartbeats 1000000 in
set_option maxRecDepth 100000 in
theorem others_d (c : Int) (hA : 32 ≤ c) (hB : c ≤ 63) (w : World) : Calls Try.prog 4 #[.int .u8 c] w fun e w' => e = .returned (.bool true) ∧ Below w.heap.size w w' := by
  have N1 := Lib.hid (next_at [27, c] (15, 0, 1, 0) (n1_no c (by omega) (by omega)))
  have N2 := Lib.hid (next_at [27, 79, c] (15, 0, 2, 0) (n2_no c (by omega)))
  have N3 := Lib.hid (next_at [27, 91, c] (0, 0, 3, 7) (n3_more c ⟨hA, hB⟩))
  have f1 : (c == 91) = false := beq_eq_false_iff_ne.mpr (by omega)
  have f2 : (c == 79) = false := beq_eq_false_iff_ne.mpr (by omega)
  go_enter Try.func4, Try.ntmps4
  go_wp2_with (fail)
  refine (N1.out _ 2 (by simp) _ (by exact lit_reads _ [27, c] _ _ (by simp))).mono ?_
  rintro e w1 ⟨rfl, b1⟩
  have B1 := Lib.hid b1
  clear b1
  go_wp2_with (fail)
  refine (N2.out _ 3 (by simp) _ (by have q := lit_reads (w1.alloc (.cells #[.int .i64 15, .int .i64 0] 25)) [27, 79, c] 5 (0, 0) (by simp); rw [World.size_alloc] at q; exact q)).mono ?_
  rintro e w2 ⟨rfl, b2⟩
  have B2 := Lib.hid b2
  clear b2
  go_wp2_with (fail)
  refine (N3.out _ 3 (by simp) _ (by have q := lit_reads (w2.alloc (.cells #[.int .i64 15, .int .i64 0] 25)) [27, 91, c] 5 (0, 0) (by simp); rw [World.size_alloc] at q; exact q)).mono ?_
  rintro e w3 ⟨rfl, b3⟩
  have B3 := Lib.hid b3
  clear b3
  go_wp2_with (fail)
  refine (whispererlaw09_alive.calls true _ rfl).mono ?_
  rintro e w4 ⟨rfl, b4⟩
  have B4 := Lib.hid b4
  clear b4
  go_wp2_with (fail)
  go_ret
  refine ⟨by first | rfl | (simp; omega), ?_⟩
  have z1 : Below w.heap.size w w1 := ((Below.refl w.heap.size w).alloc (Nat.le_refl _) _).trans (B1.out.mono (by simp))
  have z2 : Below w.heap.size w w2 := ((z1.alloc z1.size _).alloc (by have := z1.size; simp; omega) _).trans (B2.out.mono (by have := z1.size; simp; omega))
  have z3 : Below w.heap.size w w3 := ((z2.alloc z2.size _).alloc (by have := z2.size; simp; omega) _).trans (B3.out.mono (by have := z2.size; simp; omega))
  exact (z3.alloc z3.size _).trans (B4.out.mono (by have := z3.size; simp; omega))

set_option maxHeartbeats 1000000 in
set_option maxRecDepth 100000 in
theorem others_e (c : Int) (hA : c < 32) (w : World) : Calls Try.prog 4 #[.int .u8 c] w fun e w' => e = .returned (.bool true) ∧ Below w.heap.size w w' := by
  have N1 := Lib.hid (next_at [27, c] (15, 0, 1, 0) (n1_no c (by omega) (by omega)))
  have N2 := Lib.hid (next_at [27, 79, c] (15, 0, 2, 0) (n2_no c (by omega)))
  have N3 := Lib.hid (next_at [27, 91, c] (15, 0, 2, 0) (n3_no c (.inl hA)))
  have f1 : (c == 91) = false := beq_eq_false_iff_ne.mpr (by omega)
  have f2 : (c == 79) = false := beq_eq_false_iff_ne.mpr (by omega)
  go_enter Try.func4, Try.ntmps4
  go_wp2_with (fail)
  refine (N1.out _ 2 (by simp) _ (by exact lit_reads _ [27, c] _ _ (by simp))).mono ?_
  rintro e w1 ⟨rfl, b1⟩
  have B1 := Lib.hid b1
  clear b1
  go_wp2_with (fail)
  refine (N2.out _ 3 (by simp) _ (by have q := lit_reads (w1.alloc (.cells #[.int .i64 15, .int .i64 0] 25)) [27, 79, c] 5 (0, 0) (by simp); rw [World.size_alloc] at q; exact q)).mono ?_
  rintro e w2 ⟨rfl, b2⟩
  have B2 := Lib.hid b2
  clear b2
  go_wp2_with (fail)
  refine (N3.out _ 3 (by simp) _ (by have q := lit_reads (w2.alloc (.cells #[.int .i64 15, .int .i64 0] 25)) [27, 91, c] 5 (0, 0) (by simp); rw [World.size_alloc] at q; exact q)).mono ?_
  rintro e w3 ⟨rfl, b3⟩
  have B3 := Lib.hid b3
  clear b3
  go_wp2_with (fail)
  refine (whispererlaw09_alive.calls true _ rfl).mono ?_
  rintro e w4 ⟨rfl, b4⟩
  have B4 := Lib.hid b4
  clear b4
  go_wp2_with (fail)
  go_ret
  refine ⟨by first | rfl | (simp; omega), ?_⟩
  have z1 : Below w.heap.size w w1 := ((Below.refl w.heap.size w).alloc (Nat.le_refl _) _).trans (B1.out.mono (by simp))
  have z2 : Below w.heap.size w w2 := ((z1.alloc z1.size _).alloc (by have := z1.size; simp; omega) _).trans (B2.out.mono (by have := z1.size; simp; omega))
  have z3 : Below w.heap.size w w3 := ((z2.alloc z2.size _).alloc (by have := z2.size; simp; omega) _).trans (B3.out.mono (by have := z2.size; simp; omega))
  exact (z3.alloc z3.size _).trans (B4.out.mono (by have := z3.size; simp; omega))

set_option maxHeartbeats 1000000 in
set_option maxRecDepth 100000 in
theorem others_f (c : Int) (hA : 126 < c) (w : World) : Calls Try.prog 4 #[.int .u8 c] w fun e w' => e = .returned (.bool true) ∧ Below w.heap.size w w' := by
  have N1 := Lib.hid (next_at [27, c] (15, 0, 1, 0) (n1_no c (by omega) (by omega)))
  have N2 := Lib.hid (next_at [27, 79, c] (15, 0, 2, 0) (n2_no c (by omega)))
  have N3 := Lib.hid (next_at [27, 91, c] (15, 0, 2, 0) (n3_no c (.inr hA)))
  have f1 : (c == 91) = false := beq_eq_false_iff_ne.mpr (by omega)
  have f2 : (c == 79) = false := beq_eq_false_iff_ne.mpr (by omega)
  go_enter Try.func4, Try.ntmps4
  go_wp2_with (fail)
  refine (N1.out _ 2 (by simp) _ (by exact lit_reads _ [27, c] _ _ (by simp))).mono ?_
  rintro e w1 ⟨rfl, b1⟩
  have B1 := Lib.hid b1
  clear b1
  go_wp2_with (fail)
  refine (N2.out _ 3 (by simp) _ (by have q := lit_reads (w1.alloc (.cells #[.int .i64 15, .int .i64 0] 25)) [27, 79, c] 5 (0, 0) (by simp); rw [World.size_alloc] at q; exact q)).mono ?_
  rintro e w2 ⟨rfl, b2⟩
  have B2 := Lib.hid b2
  clear b2
  go_wp2_with (fail)
  refine (N3.out _ 3 (by simp) _ (by have q := lit_reads (w2.alloc (.cells #[.int .i64 15, .int .i64 0] 25)) [27, 91, c] 5 (0, 0) (by simp); rw [World.size_alloc] at q; exact q)).mono ?_
  rintro e w3 ⟨rfl, b3⟩
  have B3 := Lib.hid b3
  clear b3
  go_wp2_with (fail)
  refine (whispererlaw09_alive.calls true _ rfl).mono ?_
  rintro e w4 ⟨rfl, b4⟩
  have B4 := Lib.hid b4
  clear b4
  go_wp2_with (fail)
  go_ret
  refine ⟨by first | rfl | (simp; omega), ?_⟩
  have z1 : Below w.heap.size w w1 := ((Below.refl w.heap.size w).alloc (Nat.le_refl _) _).trans (B1.out.mono (by simp))
  have z2 : Below w.heap.size w w2 := ((z1.alloc z1.size _).alloc (by have := z1.size; simp; omega) _).trans (B2.out.mono (by have := z1.size; simp; omega))
  have z3 : Below w.heap.size w w3 := ((z2.alloc z2.size _).alloc (by have := z2.size; simp; omega) _).trans (B3.out.mono (by have := z2.size; simp; omega))
  exact (z3.alloc z3.size _).trans (B4.out.mono (by have := z3.size; simp; omega))

theorem whispererlaw09_EscseqOthers.walk (a0 : Int) (w : World) (w0 : (Lit.int .u8 a0).wf = true) : Calls Try.prog 4 #[.int .u8 a0] w fun e w' => e = .returned (.bool true) ∧ Below w.heap.size w w' := by
  by_cases h1 : a0 = 91; · subst h1; exact others_a w
  by_cases h2 : a0 = 79; · subst h2; exact others_b w
  by_cases h3 : a0 < 32; · exact others_e a0 h3 w
  by_cases h4 : a0 ≤ 63; · exact others_d a0 (by omega) h4 w
  by_cases h5 : a0 ≤ 126; · exact others_c a0 h1 h2 (by omega) h5 w
  exact others_f a0 (by omega) w

end Go.Proofs.Ytjlfpkgnkgbhiaa.Hand
