-- Printed by a changed copy of the kit's print program that takes contracts proved by hand. Not trusted: Lean checks it.
import Derived.Test.YtbiogabekhegaaaGreatDoorPReadx0
namespace Go.Proofs.YtbiogabekhegaaaGreatDoor.PRead
set_option linter.unusedVariables false
open Go.RowKit Go.Proofs.YtbiogabekhegaaaGreatDoorW.PrintWords Go.Proofs.YtbiogabekhegaaaGreatDoorW.PrintLast Go.Proofs.YtbiogabekhegaaaGreatDoorW.PrintMore
attribute [local go_sem] max2_int min2_int max_two min_two max_three min_three max_four min_four   -- for this text's walks alone
set_option linter.unusedVariables false
set_option linter.unusedSimpArgs false

-- BY HAND: function 27 (whispererref06_Decimal)

/-! ### whispererref06_Names: function 55 -/
def whispererref06_Names.f  : Option (List ByteArray) := some (([(⟨#[101, 99, 104, 111]⟩ : ByteArray), (⟨#[99, 97, 110, 111, 110]⟩ : ByteArray), (⟨#[115, 105, 103, 110, 97, 108, 115]⟩ : ByteArray), (⟨#[101, 120, 116, 101, 110, 100]⟩ : ByteArray), (⟨#[102, 108, 111, 119]⟩ : ByteArray), (⟨#[99, 114, 116, 111, 110, 108]⟩ : ByteArray), (⟨#[112, 111, 115, 116]⟩ : ByteArray)] : List ByteArray))
set_option maxHeartbeats 8000000 in
set_option maxRecDepth 100000 in
theorem whispererref06_Names.calls  (r : List ByteArray) (w : World) (h : whispererref06_Names.f  = some r) :
    Calls Tryz.prog 55 #[] w fun e w' => ∃ v0_ : Value, e = .returned (v0_) ∧ Kd.R Kd.string 9 w' w.heap.size (fun _ => True) v0_ r ∧ Below w.heap.size w w' := by
  have HB := Aside0.mk (Below.refl w.heap.size w)
  have H : (some (([(⟨#[101, 99, 104, 111]⟩ : ByteArray), (⟨#[99, 97, 110, 111, 110]⟩ : ByteArray), (⟨#[115, 105, 103, 110, 97, 108, 115]⟩ : ByteArray), (⟨#[101, 120, 116, 101, 110, 100]⟩ : ByteArray), (⟨#[102, 108, 111, 119]⟩ : ByteArray), (⟨#[99, 114, 116, 111, 110, 108]⟩ : ByteArray), (⟨#[112, 111, 115, 116]⟩ : ByteArray)] : List ByteArray))) = some r := h
  clear h
  obtain ⟨y101, hy101⟩ : ∃ y_ : List ByteArray, y_ = (([(⟨#[101, 99, 104, 111]⟩ : ByteArray), (⟨#[99, 97, 110, 111, 110]⟩ : ByteArray), (⟨#[115, 105, 103, 110, 97, 108, 115]⟩ : ByteArray), (⟨#[101, 120, 116, 101, 110, 100]⟩ : ByteArray), (⟨#[102, 108, 111, 119]⟩ : ByteArray), (⟨#[99, 114, 116, 111, 110, 108]⟩ : ByteArray), (⟨#[112, 111, 115, 116]⟩ : ByteArray)] : List ByteArray)) := ⟨_, rfl⟩
  replace H : (some y101) = some r := by first | (rw [hy101]; with_reducible exact H) | (have H2_ := (Option.bind_some _ _).symm.trans H; rw [hy101]; with_reducible exact H2_) | (have H2_ := (Option.bind_some _ _).symm.trans H; with_reducible exact H2_) | with_reducible exact H | (rw [hy101]; exact H) | exact H
  have Ny101 := Aside0.mk hy101
  clear hy101
  obtain rfl := Option.some.inj H
  go_enter Tryz.func55, Tryz.ntmps55
  go_wp2_with (first | ((with_reducible refine gate_dst (N := 1) rfl ?_); refine Kd.R_lit Kd.string _ 9 ?hg (N := 1) ?hd (xs := ([(⟨#[101, 99, 104, 111]⟩ : ByteArray), (⟨#[99, 97, 110, 111, 110]⟩ : ByteArray), (⟨#[115, 105, 103, 110, 97, 108, 115]⟩ : ByteArray), (⟨#[101, 120, 116, 101, 110, 100]⟩ : ByteArray), (⟨#[102, 108, 111, 119]⟩ : ByteArray), (⟨#[99, 114, 116, 111, 110, 108]⟩ : ByteArray), (⟨#[112, 111, 115, 116]⟩ : ByteArray)] : List ByteArray)) (inner := [.string (⟨#[101, 99, 104, 111]⟩ : ByteArray), .string (⟨#[99, 97, 110, 111, 110]⟩ : ByteArray), .string (⟨#[115, 105, 103, 110, 97, 108, 115]⟩ : ByteArray), .string (⟨#[101, 120, 116, 101, 110, 100]⟩ : ByteArray), .string (⟨#[102, 108, 111, 119]⟩ : ByteArray), .string (⟨#[99, 114, 116, 111, 110, 108]⟩ : ByteArray), .string (⟨#[112, 111, 115, 116]⟩ : ByteArray)]) (ok := fun _ => True) (okp := fun _ => True) ?hr ?hp (fun _ hk => hk) trivial (Below.refl _ _) (Nat.le_refl _) (by simp) ?_; (case hd => rfl); (case hg => rfl); (case hr => first | (go_simp; done) | (go_simp; rfl)); (case hp => exact (Reps.one (show Kd.M Kd.string _ _ _ (⟨#[101, 99, 104, 111]⟩ : ByteArray) [.string (⟨#[101, 99, 104, 111]⟩ : ByteArray)] from rfl) (Reps.one (show Kd.M Kd.string _ _ _ (⟨#[99, 97, 110, 111, 110]⟩ : ByteArray) [.string (⟨#[99, 97, 110, 111, 110]⟩ : ByteArray)] from rfl) (Reps.one (show Kd.M Kd.string _ _ _ (⟨#[115, 105, 103, 110, 97, 108, 115]⟩ : ByteArray) [.string (⟨#[115, 105, 103, 110, 97, 108, 115]⟩ : ByteArray)] from rfl) (Reps.one (show Kd.M Kd.string _ _ _ (⟨#[101, 120, 116, 101, 110, 100]⟩ : ByteArray) [.string (⟨#[101, 120, 116, 101, 110, 100]⟩ : ByteArray)] from rfl) (Reps.one (show Kd.M Kd.string _ _ _ (⟨#[102, 108, 111, 119]⟩ : ByteArray) [.string (⟨#[102, 108, 111, 119]⟩ : ByteArray)] from rfl) (Reps.one (show Kd.M Kd.string _ _ _ (⟨#[99, 114, 116, 111, 110, 108]⟩ : ByteArray) [.string (⟨#[99, 114, 116, 111, 110, 108]⟩ : ByteArray)] from rfl) (Reps.one (show Kd.M Kd.string _ _ _ (⟨#[112, 111, 115, 116]⟩ : ByteArray) [.string (⟨#[112, 111, 115, 116]⟩ : ByteArray)] from rfl) (Reps.none _ _))))))))); intro v102 w1 ho2 hb hg_ hnew_; clear hg_ hnew_; (first | rw [← Ny101.out] at ho2 | (simp only [Int.reduceToNat] at ho2; rw [← Ny101.out] at ho2)); have n0_ := Aside0.mk (Kd.R_lower ho2 (below_size (by repeat (first | (with_reducible first | exact HB.out | apply below_alloc | apply pw_below_drewN | apply below_drew1) | exact HB.out)))); have n1_ := Aside0.mk (below_step (by repeat (first | (with_reducible first | exact HB.out | apply below_alloc | apply pw_below_drewN | apply below_drew1) | exact HB.out)) hb); clear HB; have HO103 := n0_; have HB := n1_; clear n0_ n1_; clear hb ho2))
  go_ret
  exact ⟨_, by first | rfl | (simp [errW_none, errW_some] <;> rfl) | (simp [*, errW_none, errW_some] <;> rfl), by (with_reducible repeat (first | apply Kd.R_alloc | apply Kd.R_drewN | apply Kd.R_drew)); exact HO103.out, by repeat (first | (with_reducible first | exact HB.out | apply below_alloc | apply pw_below_drewN | apply below_drew1) | exact HB.out)⟩

/-! ### whispererref06_bit: function 56 -/
def whispererref06_bit.l0 : Nat → Int → Int → Int → Option (Bool)
  | 0, _, _, _ => none
  | k + 1, x0, x1, x5 => if x5 < x1 then (whispererref06_bit.l0 k ((Int.tdiv x0 2) % 4294967296) x1 (wrap64 (x5 + 1))) else (some ((Int.tmod x0 2) == 1))
def whispererref06_bit.f (k : Nat) (a0 : Int) (a1 : Int) : Option (Bool) := whispererref06_bit.l0 k a0 a1 0
theorem whispererref06_bit.mono_l : ∀ k, (∀ y0 y1 y2, LeO (whispererref06_bit.l0 k y0 y1 y2) (whispererref06_bit.l0 (k + 1) y0 y1 y2))
  | 0 => fun _ _ _ r h => by simp [whispererref06_bit.l0] at h
  | k + 1 => by
    have ih0 := whispererref06_bit.mono_l k
    · intro y0 y1 y2
      unfold whispererref06_bit.l0
      repeat' first
      | (with_reducible exact ih0 _ _ _)
      | (with_reducible exact LeO.refl _)
      | (with_reducible exact LeO.none _)
      | (with_reducible refine LeO.ite ?_ ?_)
      | (with_reducible refine LeO.bind ?_ (fun _ => ?_))
      | exact ih0 _ _ _
      | exact LeO.none _
      | refine LeO.ite ?_ ?_
      | refine LeO.bind ?_ (fun _ => ?_)
theorem whispererref06_bit.mono : ∀ a0 a1 k, LeO (whispererref06_bit.f k a0 a1) (whispererref06_bit.f (k + 1) a0 a1) := by
  intro a0 a1 k
  have ih0 := whispererref06_bit.mono_l k
  unfold whispererref06_bit.f
  repeat' first
      | (with_reducible exact ih0 _ _ _)
      | (with_reducible exact LeO.refl _)
      | (with_reducible exact LeO.none _)
      | (with_reducible refine LeO.ite ?_ ?_)
      | (with_reducible refine LeO.bind ?_ (fun _ => ?_))
      | exact ih0 _ _ _
      | exact LeO.none _
      | refine LeO.ite ?_ ?_
      | refine LeO.bind ?_ (fun _ => ?_)
set_option maxHeartbeats 8000000 in
set_option maxRecDepth 100000 in
theorem whispererref06_bit.calls (k : Nat) (a0 : Int) (a1 : Int) (r : Bool) (w : World) (h : whispererref06_bit.f k a0 a1 = some r) :
    Calls Tryz.prog 56 #[.int .u32 a0, .int .i64 a1] w fun e w' => e = .returned (.bool r) ∧ Drawn0 w w' := by
  have H : (whispererref06_bit.l0 k a0 a1 0) = some r := h
  clear h
  have H' := Aside0.mk H
  clear H
  go_enter Tryz.func56, Tryz.ntmps56
  go_wp2
  go_loopg [0, 5] k (fun kq v0 v5 w' => ∃ (x0_1 : Int) (x5_1 : Int), v0 = .int .u32 x0_1 ∧ v5 = .int .i64 x5_1 ∧ Aside0 (whispererref06_bit.l0 kq x0_1 a1 x5_1 = some r) ∧ Aside0 (kq ≤ k) ∧ Drawn0 w w')
  case atStart => exact ⟨(a0), (0), (by first | rfl | (simp; done) | (simp [*]; done)), (by first | rfl | (simp; done) | (simp [*]; done)), H', ⟨Nat.le_refl _⟩, by repeat (first | exact Drawn0.refl _ | apply Drawn0.step)⟩
  case round =>
    clear H'
    try clear p2
    obtain ⟨x0_1, x5_1, rfl, rfl, HA, HK1, ⟨m1, rfl⟩⟩ := hrel
    cases gk with
    | zero => exact absurd HA.out (by simp [whispererref06_bit.l0])
    | succ k1 =>
      have H := HA.out
      clear HA
      simp only [whispererref06_bit.l0] at H
      by_cases c3 : x5_1 < a1
      · rw [if_pos c3] at H
        have c3b0 : decide (x5_1 < a1) = true := decide_eq_true c3
        clear c3
        have H' := Aside0.mk H
        clear H
        go_wp2
        go_roundg k1
        case measure => have := HK1.out; omega
        case rel => exact ⟨((Int.tdiv x0_1 2) % 4294967296), (wrap64 (x5_1 + 1)), (by first | rfl | (simp; done) | (simp [*]; done)), (by first | rfl | (simp; done) | (simp [*]; done)), H', ⟨by have := HK1.out; omega⟩, by repeat (first | exact Drawn0.refl _ | apply Drawn0.step)⟩
      · rw [if_neg c3] at H
        have c3b0 : decide (x5_1 < a1) = false := decide_eq_false c3
        clear c3
        obtain rfl := Option.some.inj H
        go_wp2
        go_ret
        exact ⟨by first | rfl | (simp; done) | (simp [*]; done), by repeat (first | exact Drawn0.refl _ | apply Drawn0.step)⟩

/-! ### whispererref06_Text: function 29 -/
mutual
def whispererref06_Text.l0 : Nat → ByteArray → List ByteArray → Int → Int → Int → Int → Option (ByteArray)
  | 0, _, _, _, _, _, _ => none
  | k + 1, x3, x4, x5, x105000, x105001, x105002 => if x5 < (x4.length : Int) then ((whispererref06_bit.f k x105000 x5).bind fun t108 => (if t108 = true then (if x3.size + 1 ≤ 9223372036854775807 then (if 0 ≤ x5 then (if (x3 ++ (⟨#[43]⟩ : ByteArray)).size + (rdOf ByteArray.empty x4 x5).size ≤ 9223372036854775807 then (whispererref06_Text.l0 k ((x3 ++ (⟨#[43]⟩ : ByteArray)) ++ (rdOf ByteArray.empty x4 x5)) x4 (wrap64 (x5 + 1)) x105000 x105001 x105002) else (none)) else (none)) else (none)) else (whispererref06_Text.l0 k x3 x4 (wrap64 (x5 + 1)) x105000 x105001 x105002))) else (if ((x105000 - (Int.tmod x105000 128)) % 4294967296) > 0 then (if x3.size + 2 ≤ 9223372036854775807 then ((PDecimal.whispererref06_Decimal.f k ((x105000 - (Int.tmod x105000 128)) % 4294967296) 16).bind fun t110 => (if (x3 ++ (⟨#[43, 120]⟩ : ByteArray)).size + t110.size ≤ 9223372036854775807 then (whispererref06_Text.j1 k ((x3 ++ (⟨#[43, 120]⟩ : ByteArray)) ++ t110) x105000 x105001 x105002) else (none))) else (none)) else (whispererref06_Text.j1 k x3 x105000 x105001 x105002))
def whispererref06_Text.j1 : Nat → ByteArray → Int → Int → Int → Option (ByteArray)
  | 0, _, _, _, _ => none
  | k + 1, x3, x105000, x105001, x105002 => if x3.toList = ([] : List UInt8) then (if 1 ≤ 2 then (if ((⟨#[43, 45]⟩ : ByteArray).extract 1 (⟨#[43, 45]⟩ : ByteArray).size).size + 1 ≤ 9223372036854775807 then ((PDecimal.whispererref06_Decimal.f k (wrap64 (x105001)) 10).bind fun t111 => (if (((⟨#[43, 45]⟩ : ByteArray).extract 1 (⟨#[43, 45]⟩ : ByteArray).size) ++ (⟨#[32]⟩ : ByteArray)).size + t111.size ≤ 9223372036854775807 then (if ((((⟨#[43, 45]⟩ : ByteArray).extract 1 (⟨#[43, 45]⟩ : ByteArray).size) ++ (⟨#[32]⟩ : ByteArray)) ++ t111).size + 1 ≤ 9223372036854775807 then ((PDecimal.whispererref06_Decimal.f k (wrap64 (x105002)) 10).bind fun t112 => (if (((((⟨#[43, 45]⟩ : ByteArray).extract 1 (⟨#[43, 45]⟩ : ByteArray).size) ++ (⟨#[32]⟩ : ByteArray)) ++ t111) ++ (⟨#[32]⟩ : ByteArray)).size + t112.size ≤ 9223372036854775807 then (some ((((((⟨#[43, 45]⟩ : ByteArray).extract 1 (⟨#[43, 45]⟩ : ByteArray).size) ++ (⟨#[32]⟩ : ByteArray)) ++ t111) ++ (⟨#[32]⟩ : ByteArray)) ++ t112)) else (none))) else (none)) else (none))) else (none)) else (none)) else (if 1 ≤ (x3.size : Int) then (if (x3.extract 1 x3.size).size + 1 ≤ 9223372036854775807 then ((PDecimal.whispererref06_Decimal.f k (wrap64 (x105001)) 10).bind fun t113 => (if ((x3.extract 1 x3.size) ++ (⟨#[32]⟩ : ByteArray)).size + t113.size ≤ 9223372036854775807 then (if (((x3.extract 1 x3.size) ++ (⟨#[32]⟩ : ByteArray)) ++ t113).size + 1 ≤ 9223372036854775807 then ((PDecimal.whispererref06_Decimal.f k (wrap64 (x105002)) 10).bind fun t114 => (if ((((x3.extract 1 x3.size) ++ (⟨#[32]⟩ : ByteArray)) ++ t113) ++ (⟨#[32]⟩ : ByteArray)).size + t114.size ≤ 9223372036854775807 then (some (((((x3.extract 1 x3.size) ++ (⟨#[32]⟩ : ByteArray)) ++ t113) ++ (⟨#[32]⟩ : ByteArray)) ++ t114)) else (none))) else (none)) else (none))) else (none)) else (none))
end
def whispererref06_Text.f (k : Nat) (a0_0 : Int) (a0_1 : Int) (a0_2 : Int) : Option (ByteArray) := (whispererref06_Names.f).bind fun t105 => (whispererref06_Text.l0 k (⟨#[]⟩ : ByteArray) t105 0 a0_0 a0_1 a0_2)
theorem whispererref06_Text.mono_l : ∀ k, (∀ y0 y1 y2 y3 y4 y5, LeO (whispererref06_Text.l0 k y0 y1 y2 y3 y4 y5) (whispererref06_Text.l0 (k + 1) y0 y1 y2 y3 y4 y5)) ∧ (∀ y0 y1 y2 y3, LeO (whispererref06_Text.j1 k y0 y1 y2 y3) (whispererref06_Text.j1 (k + 1) y0 y1 y2 y3))
  | 0 => ⟨fun _ _ _ _ _ _ r h => by simp [whispererref06_Text.l0] at h, fun _ _ _ _ r h => by simp [whispererref06_Text.j1] at h⟩
  | k + 1 => by
    obtain ⟨ih0, ih1⟩ := whispererref06_Text.mono_l k
    refine ⟨?_, ?_⟩
    · intro y0 y1 y2 y3 y4 y5
      unfold whispererref06_Text.l0
      repeat' first
      | (with_reducible exact ih0 _ _ _ _ _ _)
      | (with_reducible exact ih1 _ _ _ _)
      | (with_reducible exact PDecimal.whispererref06_Decimal.mono _ _ _)
      | (with_reducible exact whispererref06_bit.mono _ _ _)
      | (with_reducible exact LeO.refl _)
      | (with_reducible exact LeO.none _)
      | (with_reducible refine LeO.ite ?_ ?_)
      | (with_reducible refine LeO.bind ?_ (fun _ => ?_))
      | exact ih0 _ _ _ _ _ _
      | exact ih1 _ _ _ _
      | exact PDecimal.whispererref06_Decimal.mono _ _ _
      | exact whispererref06_bit.mono _ _ _
      | exact LeO.none _
      | refine LeO.ite ?_ ?_
      | refine LeO.bind ?_ (fun _ => ?_)
    · intro y0 y1 y2 y3
      unfold whispererref06_Text.j1
      repeat' first
      | (with_reducible exact ih0 _ _ _ _ _ _)
      | (with_reducible exact ih1 _ _ _ _)
      | (with_reducible exact PDecimal.whispererref06_Decimal.mono _ _ _)
      | (with_reducible exact whispererref06_bit.mono _ _ _)
      | (with_reducible exact LeO.refl _)
      | (with_reducible exact LeO.none _)
      | (with_reducible refine LeO.ite ?_ ?_)
      | (with_reducible refine LeO.bind ?_ (fun _ => ?_))
      | exact ih0 _ _ _ _ _ _
      | exact ih1 _ _ _ _
      | exact PDecimal.whispererref06_Decimal.mono _ _ _
      | exact whispererref06_bit.mono _ _ _
      | exact LeO.none _
      | refine LeO.ite ?_ ?_
      | refine LeO.bind ?_ (fun _ => ?_)
theorem whispererref06_Text.mono : ∀ a0 a1 a2 k, LeO (whispererref06_Text.f k a0 a1 a2) (whispererref06_Text.f (k + 1) a0 a1 a2) := by
  intro a0 a1 a2 k
  obtain ⟨ih0, ih1⟩ := whispererref06_Text.mono_l k
  unfold whispererref06_Text.f
  repeat' first
      | (with_reducible exact ih0 _ _ _ _ _ _)
      | (with_reducible exact ih1 _ _ _ _)
      | (with_reducible exact PDecimal.whispererref06_Decimal.mono _ _ _)
      | (with_reducible exact whispererref06_bit.mono _ _ _)
      | (with_reducible exact LeO.refl _)
      | (with_reducible exact LeO.none _)
      | (with_reducible refine LeO.ite ?_ ?_)
      | (with_reducible refine LeO.bind ?_ (fun _ => ?_))
      | exact ih0 _ _ _ _ _ _
      | exact ih1 _ _ _ _
      | exact PDecimal.whispererref06_Decimal.mono _ _ _
      | exact whispererref06_bit.mono _ _ _
      | exact LeO.none _
      | refine LeO.ite ?_ ?_
      | refine LeO.bind ?_ (fun _ => ?_)
set_option maxHeartbeats 8000000 in
set_option maxRecDepth 100000 in
theorem whispererref06_Text.calls (k : Nat) (a0_0 : Int) (a0_1 : Int) (a0_2 : Int) (r : ByteArray) (w : World) (h : whispererref06_Text.f k a0_0 a0_1 a0_2 = some r) :
    Calls Tryz.prog 29 #[.agg #[.int .u32 a0_0, .int .u8 a0_1, .int .u8 a0_2]] w fun e w' => e = .returned (.string r) ∧ Below w.heap.size w w' := by
  have hu25 := Tryz.underlying25
  have HB := Aside0.mk (Below.refl w.heap.size w)
  have H : ((whispererref06_Names.f).bind fun t105 => (whispererref06_Text.l0 k (⟨#[]⟩ : ByteArray) t105 0 a0_0 a0_1 a0_2)) = some r := h
  clear h
  replace H := Option.bind_eq_some_iff.mp H
  obtain ⟨t105, A20, H⟩ := H
  replace H : (whispererref06_Text.l0 k (⟨#[]⟩ : ByteArray) t105 0 a0_0 a0_1 a0_2) = some r := H
  have A2 := Aside0.mk A20
  clear A20
  have H' := Aside0.mk H
  clear H
  go_enter Tryz.func29, Tryz.ntmps29
  go_wp2_with (first | ((with_reducible refine gate_dst (N := 1) rfl ?_); refine box_event ?hg (N := 1) ?hd (cs := #[.int .u32 a0_0, .int .u8 a0_1, .int .u8 a0_2]) (t := 25) ?hr ?_; (case hd => rfl); (case hg => rfl); (case hr => first | (go_simp; done) | (go_simp; rfl)); intro gb104 hg w3 hbox hb; have n0_ := Aside0.mk (below_step (by repeat (first | (with_reducible first | exact HB.out | apply below_alloc | apply pw_below_drewN | apply below_drew1) | exact HB.out)) hb); have n1_ := Aside0.mk (hbox); have n2_ := Aside0.mk ((by rw [hg]; exact (below_size (by repeat (first | (with_reducible first | exact HB.out | apply below_alloc | apply pw_below_drewN | apply below_drew1) | exact HB.out))) : w.heap.size ≤ gb104)); have n3_ := Aside0.mk ((by rw [hg]; exact (below_size (by repeat (first | (with_reducible first | exact HB.out | apply below_alloc | apply pw_below_drewN | apply below_drew1) | exact HB.out))) : w.heap.size ≤ gb104)); clear HB; have HB := n0_; have BK104 := n1_; have GW104 := n2_; have GE104 := n3_; clear n0_ n1_ n2_ n3_; clear hb hbox hg) | (go_at_call 55; (with_reducible refine (whispererref06_Names.calls  t105 _ A2.out).mono ?_); rintro e w4 ⟨v106, rfl, ho0, hb⟩; have n0_ := Aside0.mk (Kd.R_lower ho0 (below_size (by repeat (first | (with_reducible first | exact HB.out | apply below_alloc | apply pw_below_drewN | apply below_drew1 | refine below_set ?_ GE104.out) | exact HB.out)))); have n1_ := Aside0.mk (blk_below (g := gb104) (o := .cells #[.int .u32 a0_0, .int .u8 a0_1, .int .u8 a0_2] 25 (0, 0)) (by (with_reducible repeat (first | refine blk_drewN ?_ _ | refine blk_drew ?_ | refine blk_alloc ?_ _)); exact BK104.out) hb); have n2_ := Aside0.mk (below_step (by repeat (first | (with_reducible first | exact HB.out | apply below_alloc | apply pw_below_drewN | apply below_drew1 | refine below_set ?_ GE104.out) | exact HB.out)) hb); clear BK104; clear HB; have HO107 := n0_; have BK104 := n1_; have HB := n2_; clear n0_ n1_ n2_; (try clear hb); (try clear hb2); (try clear hk); (try clear hi); (try clear ho0)))
  repeat (go_quiet (first | ((with_reducible refine gate_dst (N := 1) rfl ?_); refine box_event ?hg (N := 1) ?hd (cs := #[.int .u32 a0_0, .int .u8 a0_1, .int .u8 a0_2]) (t := 25) ?hr ?_; (case hd => rfl); (case hg => rfl); (case hr => first | (go_simp; done) | (go_simp; rfl)); intro gb104 hg w3 hbox hb; have n0_ := Aside0.mk (below_step (by repeat (first | (with_reducible first | exact HB.out | apply below_alloc | apply pw_below_drewN | apply below_drew1) | exact HB.out)) hb); have n1_ := Aside0.mk (hbox); have n2_ := Aside0.mk ((by rw [hg]; exact (below_size (by repeat (first | (with_reducible first | exact HB.out | apply below_alloc | apply pw_below_drewN | apply below_drew1) | exact HB.out))) : w.heap.size ≤ gb104)); have n3_ := Aside0.mk ((by rw [hg]; exact (below_size (by repeat (first | (with_reducible first | exact HB.out | apply below_alloc | apply pw_below_drewN | apply below_drew1) | exact HB.out))) : w.heap.size ≤ gb104)); clear HB; have HB := n0_; have BK104 := n1_; have GW104 := n2_; have GE104 := n3_; clear n0_ n1_ n2_ n3_; clear hb hbox hg) | (go_at_call 55; (with_reducible refine (whispererref06_Names.calls  t105 _ A2.out).mono ?_); rintro e w4 ⟨v106, rfl, ho0, hb⟩; have n0_ := Aside0.mk (Kd.R_lower ho0 (below_size (by repeat (first | (with_reducible first | exact HB.out | apply below_alloc | apply pw_below_drewN | apply below_drew1 | refine below_set ?_ GE104.out) | exact HB.out)))); have n1_ := Aside0.mk (blk_below (g := gb104) (o := .cells #[.int .u32 a0_0, .int .u8 a0_1, .int .u8 a0_2] 25 (0, 0)) (by (with_reducible repeat (first | refine blk_drewN ?_ _ | refine blk_drew ?_ | refine blk_alloc ?_ _)); exact BK104.out) hb); have n2_ := Aside0.mk (below_step (by repeat (first | (with_reducible first | exact HB.out | apply below_alloc | apply pw_below_drewN | apply below_drew1 | refine below_set ?_ GE104.out) | exact HB.out)) hb); clear BK104; clear HB; have HO107 := n0_; have BK104 := n1_; have HB := n2_; clear n0_ n1_ n2_; (try clear hb); (try clear hb2); (try clear hk); (try clear hi); (try clear ho0))); try go_wp2_with (first | ((with_reducible refine gate_dst (N := 1) rfl ?_); refine box_event ?hg (N := 1) ?hd (cs := #[.int .u32 a0_0, .int .u8 a0_1, .int .u8 a0_2]) (t := 25) ?hr ?_; (case hd => rfl); (case hg => rfl); (case hr => first | (go_simp; done) | (go_simp; rfl)); intro gb104 hg w3 hbox hb; have n0_ := Aside0.mk (below_step (by repeat (first | (with_reducible first | exact HB.out | apply below_alloc | apply pw_below_drewN | apply below_drew1) | exact HB.out)) hb); have n1_ := Aside0.mk (hbox); have n2_ := Aside0.mk ((by rw [hg]; exact (below_size (by repeat (first | (with_reducible first | exact HB.out | apply below_alloc | apply pw_below_drewN | apply below_drew1) | exact HB.out))) : w.heap.size ≤ gb104)); have n3_ := Aside0.mk ((by rw [hg]; exact (below_size (by repeat (first | (with_reducible first | exact HB.out | apply below_alloc | apply pw_below_drewN | apply below_drew1) | exact HB.out))) : w.heap.size ≤ gb104)); clear HB; have HB := n0_; have BK104 := n1_; have GW104 := n2_; have GE104 := n3_; clear n0_ n1_ n2_ n3_; clear hb hbox hg) | (go_at_call 55; (with_reducible refine (whispererref06_Names.calls  t105 _ A2.out).mono ?_); rintro e w4 ⟨v106, rfl, ho0, hb⟩; have n0_ := Aside0.mk (Kd.R_lower ho0 (below_size (by repeat (first | (with_reducible first | exact HB.out | apply below_alloc | apply pw_below_drewN | apply below_drew1 | refine below_set ?_ GE104.out) | exact HB.out)))); have n1_ := Aside0.mk (blk_below (g := gb104) (o := .cells #[.int .u32 a0_0, .int .u8 a0_1, .int .u8 a0_2] 25 (0, 0)) (by (with_reducible repeat (first | refine blk_drewN ?_ _ | refine blk_drew ?_ | refine blk_alloc ?_ _)); exact BK104.out) hb); have n2_ := Aside0.mk (below_step (by repeat (first | (with_reducible first | exact HB.out | apply below_alloc | apply pw_below_drewN | apply below_drew1 | refine below_set ?_ GE104.out) | exact HB.out)) hb); clear BK104; clear HB; have HO107 := n0_; have BK104 := n1_; have HB := n2_; clear n0_ n1_ n2_; (try clear hb); (try clear hb2); (try clear hk); (try clear hi); (try clear ho0))))
  go_loopg [3, 5] k (fun kq v3 v5 w' => ∃ (x3_1 : ByteArray) (x5_1 : Int), v3 = .string x3_1 ∧ v5 = .int .i64 x5_1 ∧ Aside0 (whispererref06_Text.l0 kq x3_1 t105 x5_1 a0_0 a0_1 a0_2 = some r) ∧ Aside0 (kq ≤ k) ∧ Aside0 (Kd.R Kd.string 9 w' w.heap.size (fun _ => True) v106 t105) ∧ Aside0 (w'.heap[gb104]? = some (.cells #[.int .u32 a0_0, .int .u8 a0_1, .int .u8 a0_2] 25 (0, 0))) ∧ Aside0 (Below w.heap.size w w'))
  case atStart => exact ⟨((⟨#[]⟩ : ByteArray)), (0), (by first | rfl | (simp; done) | (simp [*]; done)), (by first | rfl | (simp; done) | (simp [*]; done)), H', ⟨Nat.le_refl _⟩, ⟨by (with_reducible repeat (first | apply Kd.R_alloc | apply Kd.R_drewN | apply Kd.R_drew)); exact HO107.out⟩, ⟨by (with_reducible repeat (first | refine blk_drewN ?_ _ | refine blk_drew ?_ | refine blk_alloc ?_ _)); exact BK104.out⟩, ⟨by repeat (first | (with_reducible first | exact HB.out | apply below_alloc | apply pw_below_drewN | apply below_drew1 | refine below_set ?_ GE104.out) | exact HB.out)⟩⟩
  case round =>
    clear H'
    try clear c2
    try clear p2
    obtain ⟨x3_1, x5_1, rfl, rfl, HA, HK1, HO_4, BK104, HB⟩ := hrel
    cases gk with
    | zero => exact absurd HA.out (by simp [whispererref06_Text.l0])
    | succ k1 =>
      have H := HA.out
      clear HA
      simp only [whispererref06_Text.l0] at H
      by_cases c5 : x5_1 < (t105.length : Int)
      · rw [if_pos c5] at H
        have c5b0 : decide (x5_1 < (t105.length : Int)) = true := decide_eq_true c5
        clear c5
        replace H := Option.bind_eq_some_iff.mp H
        obtain ⟨t108, A60, H⟩ := H
        replace H : (if t108 = true then (if x3_1.size + 1 ≤ 9223372036854775807 then (if 0 ≤ x5_1 then (if (x3_1 ++ (⟨#[43]⟩ : ByteArray)).size + (rdOf ByteArray.empty t105 x5_1).size ≤ 9223372036854775807 then (whispererref06_Text.l0 k1 ((x3_1 ++ (⟨#[43]⟩ : ByteArray)) ++ (rdOf ByteArray.empty t105 x5_1)) t105 (wrap64 (x5_1 + 1)) a0_0 a0_1 a0_2) else (none)) else (none)) else (none)) else (whispererref06_Text.l0 k1 x3_1 t105 (wrap64 (x5_1 + 1)) a0_0 a0_1 a0_2)) = some r := H
        have A6 := Aside0.mk A60
        clear A60
        by_cases c7 : t108 = true
        · subst c7
          have H1 : (if x3_1.size + 1 ≤ 9223372036854775807 then (if 0 ≤ x5_1 then (if (x3_1 ++ (⟨#[43]⟩ : ByteArray)).size + (rdOf ByteArray.empty t105 x5_1).size ≤ 9223372036854775807 then (whispererref06_Text.l0 k1 ((x3_1 ++ (⟨#[43]⟩ : ByteArray)) ++ (rdOf ByteArray.empty t105 x5_1)) t105 (wrap64 (x5_1 + 1)) a0_0 a0_1 a0_2) else (none)) else (none)) else (none)) = some r := by rw [if_pos rfl] at H; exact H
          clear H
          have H := H1
          clear H1
          by_cases c8 : x3_1.size + 1 ≤ 9223372036854775807
          · rw [if_pos c8] at H
            have c8b0 := eq_true c8
            have c8b1 : decide (x3_1.size + 1 ≤ 9223372036854775807) = true := decide_eq_true c8
            try have c8b2 : (9223372036854775807 < x3_1.size + 1) = False := eq_false (Nat.not_lt.2 c8)
            by_cases c9 : 0 ≤ x5_1
            · rw [if_pos c9] at H
              have c9b0 : decide (0 ≤ x5_1) = true := decide_eq_true c9
              clear c9
              by_cases c10 : (x3_1 ++ (⟨#[43]⟩ : ByteArray)).size + (rdOf ByteArray.empty t105 x5_1).size ≤ 9223372036854775807
              · rw [if_pos c10] at H
                have c10b0 := eq_true c10
                have c10b1 : decide ((x3_1 ++ (⟨#[43]⟩ : ByteArray)).size + (rdOf ByteArray.empty t105 x5_1).size ≤ 9223372036854775807) = true := decide_eq_true c10
                try have c10b2 : (9223372036854775807 < (x3_1 ++ (⟨#[43]⟩ : ByteArray)).size + (rdOf ByteArray.empty t105 x5_1).size) = False := eq_false (Nat.not_lt.2 c10)
                try have c10b5 : (9223372036854775807 < x3_1.size + 1 + (rdOf ByteArray.empty t105 x5_1).size) = False := eq_false (Nat.not_lt.2 (by have h_ := c10; simp only [ByteArray.size_append] at h_; exact h_))
                have H' := Aside0.mk H
                clear H
                obtain ⟨Ao11, co11, eo11⟩ := Kd.R_slice HO_4.out
                subst eo11
                have hcz12_0 : wr.cell? ⟨gb104, 0, none⟩ = some (.int .u32 a0_0) := (blk_cell BK104.out 0).trans rfl
                have hcz12_1 : wr.cell? ⟨gb104, 1, none⟩ = some (.int .u8 a0_1) := (blk_cell BK104.out 1).trans rfl
                have hcz12_2 : wr.cell? ⟨gb104, 2, none⟩ = some (.int .u8 a0_2) := (blk_cell BK104.out 2).trans rfl
                have hfz12_0 := blk_frozen BK104.out 0
                have hfz12_1 := blk_frozen BK104.out 1
                have hfz12_2 := blk_frozen BK104.out 2
                go_wp2_with (first | (go_at_call 56; (with_reducible refine (whispererref06_bit.calls k1 a0_0 x5_1 true _ A6.out).mono ?_); rintro e w' ⟨rfl, ⟨nd, rfl⟩⟩; (try first | exact ⟨rfl, _, World.drewN_drewN _ _ _⟩ | exact ⟨rfl, _, Eq.trans (World.drewN_drewN _ _ _) (congrArg (World.drewN _) (Nat.add_assoc _ _ _))⟩); have p109 : 0 ≤ (x5_1 : Int) := of_decide_eq_true (by first | (with_reducible assumption) | assumption); have q109 : x5_1 < (t105.length : Int) := of_decide_eq_true (by first | (with_reducible assumption) | assumption); obtain ⟨ad109, e109, hx109_0⟩ := Kd.at_string (Kd.R_reads' HO_4.out).2.2 x5_1 p109 q109; cases e109; replace p109 := eq_true p109; replace q109 := eq_true q109))
                repeat (go_quiet (first | (go_at_call 56; (with_reducible refine (whispererref06_bit.calls k1 a0_0 x5_1 true _ A6.out).mono ?_); rintro e w' ⟨rfl, ⟨nd, rfl⟩⟩; (try first | exact ⟨rfl, _, World.drewN_drewN _ _ _⟩ | exact ⟨rfl, _, Eq.trans (World.drewN_drewN _ _ _) (congrArg (World.drewN _) (Nat.add_assoc _ _ _))⟩); have p109 : 0 ≤ (x5_1 : Int) := of_decide_eq_true (by first | (with_reducible assumption) | assumption); have q109 : x5_1 < (t105.length : Int) := of_decide_eq_true (by first | (with_reducible assumption) | assumption); obtain ⟨ad109, e109, hx109_0⟩ := Kd.at_string (Kd.R_reads' HO_4.out).2.2 x5_1 p109 q109; cases e109; replace p109 := eq_true p109; replace q109 := eq_true q109)); try go_wp2_with (first | (go_at_call 56; (with_reducible refine (whispererref06_bit.calls k1 a0_0 x5_1 true _ A6.out).mono ?_); rintro e w' ⟨rfl, ⟨nd, rfl⟩⟩; (try first | exact ⟨rfl, _, World.drewN_drewN _ _ _⟩ | exact ⟨rfl, _, Eq.trans (World.drewN_drewN _ _ _) (congrArg (World.drewN _) (Nat.add_assoc _ _ _))⟩); have p109 : 0 ≤ (x5_1 : Int) := of_decide_eq_true (by first | (with_reducible assumption) | assumption); have q109 : x5_1 < (t105.length : Int) := of_decide_eq_true (by first | (with_reducible assumption) | assumption); obtain ⟨ad109, e109, hx109_0⟩ := Kd.at_string (Kd.R_reads' HO_4.out).2.2 x5_1 p109 q109; cases e109; replace p109 := eq_true p109; replace q109 := eq_true q109)))
                go_roundg k1
                case measure => have := HK1.out; omega
                case rel => exact ⟨((x3_1 ++ (⟨#[43]⟩ : ByteArray)) ++ (rdOf ByteArray.empty t105 x5_1)), (wrap64 (x5_1 + 1)), (by first | rfl | (simp; done) | (simp [*]; done)), (by first | rfl | (simp; done) | (simp [*]; done)), H', ⟨by have := HK1.out; omega⟩, ⟨by (with_reducible repeat (first | apply Kd.R_alloc | apply Kd.R_drewN | apply Kd.R_drew)); exact HO_4.out⟩, ⟨by (with_reducible repeat (first | refine blk_drewN ?_ _ | refine blk_drew ?_ | refine blk_alloc ?_ _)); exact BK104.out⟩, ⟨by repeat (first | (with_reducible first | exact HB.out | apply below_alloc | apply pw_below_drewN | apply below_drew1 | refine below_set ?_ GE104.out) | exact HB.out)⟩⟩
              · rw [if_neg c10] at H
                exact absurd H (by simp)
            · rw [if_neg c9] at H
              exact absurd H (by simp)
          · rw [if_neg c8] at H
            exact absurd H (by simp)
        · replace c7 := Bool.eq_false_iff.mpr c7
          subst c7
          have H1 : (whispererref06_Text.l0 k1 x3_1 t105 (wrap64 (x5_1 + 1)) a0_0 a0_1 a0_2) = some r := by rw [if_neg (show ¬ (false = true) by decide)] at H; exact H
          clear H
          have H := H1
          clear H1
          have H' := Aside0.mk H
          clear H
          obtain ⟨Ao13, co13, eo13⟩ := Kd.R_slice HO_4.out
          subst eo13
          have hcz14_0 : wr.cell? ⟨gb104, 0, none⟩ = some (.int .u32 a0_0) := (blk_cell BK104.out 0).trans rfl
          have hcz14_1 : wr.cell? ⟨gb104, 1, none⟩ = some (.int .u8 a0_1) := (blk_cell BK104.out 1).trans rfl
          have hcz14_2 : wr.cell? ⟨gb104, 2, none⟩ = some (.int .u8 a0_2) := (blk_cell BK104.out 2).trans rfl
          have hfz14_0 := blk_frozen BK104.out 0
          have hfz14_1 := blk_frozen BK104.out 1
          have hfz14_2 := blk_frozen BK104.out 2
          go_wp2_with (first | (go_at_call 56; (with_reducible refine (whispererref06_bit.calls k1 a0_0 x5_1 false _ A6.out).mono ?_); rintro e w' ⟨rfl, ⟨nd, rfl⟩⟩; (try first | exact ⟨rfl, _, World.drewN_drewN _ _ _⟩ | exact ⟨rfl, _, Eq.trans (World.drewN_drewN _ _ _) (congrArg (World.drewN _) (Nat.add_assoc _ _ _))⟩)))
          repeat (go_quiet (first | (go_at_call 56; (with_reducible refine (whispererref06_bit.calls k1 a0_0 x5_1 false _ A6.out).mono ?_); rintro e w' ⟨rfl, ⟨nd, rfl⟩⟩; (try first | exact ⟨rfl, _, World.drewN_drewN _ _ _⟩ | exact ⟨rfl, _, Eq.trans (World.drewN_drewN _ _ _) (congrArg (World.drewN _) (Nat.add_assoc _ _ _))⟩))); try go_wp2_with (first | (go_at_call 56; (with_reducible refine (whispererref06_bit.calls k1 a0_0 x5_1 false _ A6.out).mono ?_); rintro e w' ⟨rfl, ⟨nd, rfl⟩⟩; (try first | exact ⟨rfl, _, World.drewN_drewN _ _ _⟩ | exact ⟨rfl, _, Eq.trans (World.drewN_drewN _ _ _) (congrArg (World.drewN _) (Nat.add_assoc _ _ _))⟩))))
          go_roundg k1
          case measure => have := HK1.out; omega
          case rel => exact ⟨(x3_1), (wrap64 (x5_1 + 1)), (by first | rfl | (simp; done) | (simp [*]; done)), (by first | rfl | (simp; done) | (simp [*]; done)), H', ⟨by have := HK1.out; omega⟩, ⟨by (with_reducible repeat (first | apply Kd.R_alloc | apply Kd.R_drewN | apply Kd.R_drew)); exact HO_4.out⟩, ⟨by (with_reducible repeat (first | refine blk_drewN ?_ _ | refine blk_drew ?_ | refine blk_alloc ?_ _)); exact BK104.out⟩, ⟨by repeat (first | (with_reducible first | exact HB.out | apply below_alloc | apply pw_below_drewN | apply below_drew1 | refine below_set ?_ GE104.out) | exact HB.out)⟩⟩
      · rw [if_neg c5] at H
        have c5b0 : decide (x5_1 < (t105.length : Int)) = false := decide_eq_false c5
        clear c5
        have HC15 := Aside0.mk H
        clear H
        obtain ⟨Ao16, co16, eo16⟩ := Kd.R_slice HO_4.out
        subst eo16
        have hcz17_0 : wr.cell? ⟨gb104, 0, none⟩ = some (.int .u32 a0_0) := (blk_cell BK104.out 0).trans rfl
        have hcz17_1 : wr.cell? ⟨gb104, 1, none⟩ = some (.int .u8 a0_1) := (blk_cell BK104.out 1).trans rfl
        have hcz17_2 : wr.cell? ⟨gb104, 2, none⟩ = some (.int .u8 a0_2) := (blk_cell BK104.out 2).trans rfl
        have hfz17_0 := blk_frozen BK104.out 0
        have hfz17_1 := blk_frozen BK104.out 1
        have hfz17_2 := blk_frozen BK104.out 2
        go_upto_if 32 with (fail)
        repeat (go_quiet (fail); go_upto_if 32 with (fail))
        go_cut [3] (fun v3 wc => ∃ (kq : Nat) (x3_14 : ByteArray), v3 = .string x3_14 ∧ Aside0 (whispererref06_Text.j1 kq x3_14 a0_0 a0_1 a0_2 = some r) ∧ Aside0 (kq ≤ k1) ∧ Aside0 (wc.heap[gb104]? = some (.cells #[.int .u32 a0_0, .int .u8 a0_1, .int .u8 a0_2] 25 (0, 0))) ∧ Aside0 (Below w.heap.size w wc))
        case first =>
          have H := HC15.out
          clear HC15
          by_cases c18 : ((a0_0 - (Int.tmod a0_0 128)) % 4294967296) > 0
          · rw [if_pos c18] at H
            have c18b0 : decide (0 < ((a0_0 - (Int.tmod a0_0 128)) % 4294967296)) = true := decide_eq_true c18
            clear c18
            (first | rw [c18b0] | (simp only [i64_w, i32_w]; rw [c18b0]) | skip)
            by_cases c19 : x3_1.size + 2 ≤ 9223372036854775807
            · rw [if_pos c19] at H
              have c19b0 := eq_true c19
              have c19b1 : decide (x3_1.size + 2 ≤ 9223372036854775807) = true := decide_eq_true c19
              try have c19b2 : (9223372036854775807 < x3_1.size + 2) = False := eq_false (Nat.not_lt.2 c19)
              replace H := Option.bind_eq_some_iff.mp H
              obtain ⟨t110, A200, H⟩ := H
              replace H : (if (x3_1 ++ (⟨#[43, 120]⟩ : ByteArray)).size + t110.size ≤ 9223372036854775807 then (whispererref06_Text.j1 k1 ((x3_1 ++ (⟨#[43, 120]⟩ : ByteArray)) ++ t110) a0_0 a0_1 a0_2) else (none)) = some r := H
              have A20 := Aside0.mk A200
              clear A200
              by_cases c21 : (x3_1 ++ (⟨#[43, 120]⟩ : ByteArray)).size + t110.size ≤ 9223372036854775807
              · rw [if_pos c21] at H
                have c21b0 := eq_true c21
                have c21b1 : decide ((x3_1 ++ (⟨#[43, 120]⟩ : ByteArray)).size + t110.size ≤ 9223372036854775807) = true := decide_eq_true c21
                try have c21b2 : (9223372036854775807 < (x3_1 ++ (⟨#[43, 120]⟩ : ByteArray)).size + t110.size) = False := eq_false (Nat.not_lt.2 c21)
                try have c21b5 : (9223372036854775807 < x3_1.size + 2 + t110.size) = False := eq_false (Nat.not_lt.2 (by have h_ := c21; simp only [ByteArray.size_append] at h_; exact h_))
                have H' := Aside0.mk H
                clear H
                go_wp2_with (first | (go_at_call 27; (with_reducible refine (PDecimal.whispererref06_Decimal.calls k1 ((a0_0 - (Int.tmod a0_0 128)) % 4294967296) 16 t110 _ A20.out).mono ?_); rintro e w' ⟨rfl, ⟨nd, rfl⟩⟩; (try first | exact ⟨rfl, _, World.drewN_drewN _ _ _⟩ | exact ⟨rfl, _, Eq.trans (World.drewN_drewN _ _ _) (congrArg (World.drewN _) (Nat.add_assoc _ _ _))⟩)))
                repeat (go_quiet (first | (go_at_call 27; (with_reducible refine (PDecimal.whispererref06_Decimal.calls k1 ((a0_0 - (Int.tmod a0_0 128)) % 4294967296) 16 t110 _ A20.out).mono ?_); rintro e w' ⟨rfl, ⟨nd, rfl⟩⟩; (try first | exact ⟨rfl, _, World.drewN_drewN _ _ _⟩ | exact ⟨rfl, _, Eq.trans (World.drewN_drewN _ _ _) (congrArg (World.drewN _) (Nat.add_assoc _ _ _))⟩))); try go_wp2_with (first | (go_at_call 27; (with_reducible refine (PDecimal.whispererref06_Decimal.calls k1 ((a0_0 - (Int.tmod a0_0 128)) % 4294967296) 16 t110 _ A20.out).mono ?_); rintro e w' ⟨rfl, ⟨nd, rfl⟩⟩; (try first | exact ⟨rfl, _, World.drewN_drewN _ _ _⟩ | exact ⟨rfl, _, Eq.trans (World.drewN_drewN _ _ _) (congrArg (World.drewN _) (Nat.add_assoc _ _ _))⟩))))
                go_meet
                case rel => exact ⟨_, ((x3_1 ++ (⟨#[43, 120]⟩ : ByteArray)) ++ t110), (by first | rfl | (simp; done) | (simp [*]; done)), H', ⟨by have := HK1.out; first | omega | exact Nat.le_refl _⟩, ⟨by (with_reducible repeat (first | refine blk_drewN ?_ _ | refine blk_drew ?_ | refine blk_alloc ?_ _)); exact BK104.out⟩, ⟨by repeat (first | (with_reducible first | exact HB.out | apply below_alloc | apply pw_below_drewN | apply below_drew1 | refine below_set ?_ GE104.out) | exact HB.out)⟩⟩
              · rw [if_neg c21] at H
                exact absurd H (by simp)
            · rw [if_neg c19] at H
              exact absurd H (by simp)
          · rw [if_neg c18] at H
            have c18b0 : decide (0 < ((a0_0 - (Int.tmod a0_0 128)) % 4294967296)) = false := decide_eq_false c18
            clear c18
            (first | rw [c18b0] | (simp only [i64_w, i32_w]; rw [c18b0]) | skip)
            have H' := Aside0.mk H
            clear H
            go_wp2
            repeat (go_quiet (fail); try go_wp2)
            go_meet
            case rel => exact ⟨_, (x3_1), (by first | rfl | (simp; done) | (simp [*]; done)), H', ⟨by have := HK1.out; first | omega | exact Nat.le_refl _⟩, ⟨by (with_reducible repeat (first | refine blk_drewN ?_ _ | refine blk_drew ?_ | refine blk_alloc ?_ _)); exact BK104.out⟩, ⟨by repeat (first | (with_reducible first | exact HB.out | apply below_alloc | apply pw_below_drewN | apply below_drew1 | refine below_set ?_ GE104.out) | exact HB.out)⟩⟩
        case rest =>
          clear HC15
          try clear c1
          try clear p1
          try clear q1
          try clear hx1
          try clear c2
          try clear p2
          try clear c5
          try clear c5b0
          try clear p6
          try clear c7
          try clear c8
          try clear c8b0
          try clear c8b1
          try clear c8b2
          try clear c9
          try clear c9b0
          try clear c10
          try clear c10b0
          try clear c10b1
          try clear c10b2
          try clear p10
          try clear q10
          try clear hx10
          try clear c18
          try clear c18b0
          try clear c19
          try clear c19b0
          try clear c19b1
          try clear c19b2
          try clear c21
          try clear c21b0
          try clear c21b1
          try clear c21b2
          try clear hcz12_0
          try clear hcz12_1
          try clear hcz12_2
          try clear hcz14_0
          try clear hcz14_1
          try clear hcz14_2
          try clear hcz17_0
          try clear hcz17_1
          try clear hcz17_2
          try clear hfz12_0
          try clear hfz12_1
          try clear hfz12_2
          try clear hfz14_0
          try clear hfz14_1
          try clear hfz14_2
          try clear hfz17_0
          try clear hfz17_1
          try clear hfz17_2
          try clear hx109_0
          try clear p109
          try clear p2
          try clear q109
          obtain ⟨kq, x3_14, rfl, HA, HJ14, BK104, HB⟩ := hcut
          cases kq with
          | zero => exact absurd HA.out (by simp [whispererref06_Text.j1])
          | succ kj14 =>
            have H := HA.out
            clear HA
            simp only [whispererref06_Text.j1] at H
            by_cases c22 : x3_14.toList = ([] : List UInt8)
            · rw [if_pos c22] at H
              have c22b0 : (x3_14.toList == ([] : List UInt8)) = true := beq_iff_eq.mpr c22
              have c22b1 : (x3_14.toList != ([] : List UInt8)) = false := bne_eq_false_iff_eq.mpr c22
              clear c22
              by_cases c23 : 1 ≤ 2
              · rw [if_pos c23] at H
                have c23b0 := eq_true c23
                have c23b1 : decide (1 ≤ 2) = true := decide_eq_true c23
                clear c23
                by_cases c24 : ((⟨#[43, 45]⟩ : ByteArray).extract 1 (⟨#[43, 45]⟩ : ByteArray).size).size + 1 ≤ 9223372036854775807
                · rw [if_pos c24] at H
                  have c24b0 := eq_true c24
                  have c24b1 : decide (((⟨#[43, 45]⟩ : ByteArray).extract 1 (⟨#[43, 45]⟩ : ByteArray).size).size + 1 ≤ 9223372036854775807) = true := decide_eq_true c24
                  try have c24b2 : (9223372036854775807 < ((⟨#[43, 45]⟩ : ByteArray).extract 1 (⟨#[43, 45]⟩ : ByteArray).size).size + 1) = False := eq_false (Nat.not_lt.2 c24)
                  replace H := Option.bind_eq_some_iff.mp H
                  obtain ⟨t111, A250, H⟩ := H
                  replace H : (if (((⟨#[43, 45]⟩ : ByteArray).extract 1 (⟨#[43, 45]⟩ : ByteArray).size) ++ (⟨#[32]⟩ : ByteArray)).size + t111.size ≤ 9223372036854775807 then (if ((((⟨#[43, 45]⟩ : ByteArray).extract 1 (⟨#[43, 45]⟩ : ByteArray).size) ++ (⟨#[32]⟩ : ByteArray)) ++ t111).size + 1 ≤ 9223372036854775807 then ((PDecimal.whispererref06_Decimal.f kj14 (wrap64 (a0_2)) 10).bind fun t112 => (if (((((⟨#[43, 45]⟩ : ByteArray).extract 1 (⟨#[43, 45]⟩ : ByteArray).size) ++ (⟨#[32]⟩ : ByteArray)) ++ t111) ++ (⟨#[32]⟩ : ByteArray)).size + t112.size ≤ 9223372036854775807 then (some ((((((⟨#[43, 45]⟩ : ByteArray).extract 1 (⟨#[43, 45]⟩ : ByteArray).size) ++ (⟨#[32]⟩ : ByteArray)) ++ t111) ++ (⟨#[32]⟩ : ByteArray)) ++ t112)) else (none))) else (none)) else (none)) = some r := H
                  have A25 := Aside0.mk A250
                  clear A250
                  by_cases c26 : (((⟨#[43, 45]⟩ : ByteArray).extract 1 (⟨#[43, 45]⟩ : ByteArray).size) ++ (⟨#[32]⟩ : ByteArray)).size + t111.size ≤ 9223372036854775807
                  · rw [if_pos c26] at H
                    have c26b0 := eq_true c26
                    have c26b1 : decide ((((⟨#[43, 45]⟩ : ByteArray).extract 1 (⟨#[43, 45]⟩ : ByteArray).size) ++ (⟨#[32]⟩ : ByteArray)).size + t111.size ≤ 9223372036854775807) = true := decide_eq_true c26
                    try have c26b2 : (9223372036854775807 < (((⟨#[43, 45]⟩ : ByteArray).extract 1 (⟨#[43, 45]⟩ : ByteArray).size) ++ (⟨#[32]⟩ : ByteArray)).size + t111.size) = False := eq_false (Nat.not_lt.2 c26)
                    try have c26b7 : (9223372036854775807 < 2 + t111.size) = False := eq_false (Nat.not_lt.2 (by have h_ := c26; (try simp only [ByteArray.size_append] at h_); rw [show ((⟨#[43, 45]⟩ : ByteArray).extract 1 (⟨#[43, 45]⟩ : ByteArray).size).size = 1 from by (rw [ByteArray.size_extract]; first | rfl | omega)] at h_; exact h_))
                    try have c26b5 : (9223372036854775807 < ((⟨#[43, 45]⟩ : ByteArray).extract 1 (⟨#[43, 45]⟩ : ByteArray).size).size + 1 + t111.size) = False := eq_false (Nat.not_lt.2 (by have h_ := c26; simp only [ByteArray.size_append] at h_; exact h_))
                    by_cases c27 : ((((⟨#[43, 45]⟩ : ByteArray).extract 1 (⟨#[43, 45]⟩ : ByteArray).size) ++ (⟨#[32]⟩ : ByteArray)) ++ t111).size + 1 ≤ 9223372036854775807
                    · rw [if_pos c27] at H
                      have c27b0 := eq_true c27
                      have c27b1 : decide (((((⟨#[43, 45]⟩ : ByteArray).extract 1 (⟨#[43, 45]⟩ : ByteArray).size) ++ (⟨#[32]⟩ : ByteArray)) ++ t111).size + 1 ≤ 9223372036854775807) = true := decide_eq_true c27
                      try have c27b2 : (9223372036854775807 < ((((⟨#[43, 45]⟩ : ByteArray).extract 1 (⟨#[43, 45]⟩ : ByteArray).size) ++ (⟨#[32]⟩ : ByteArray)) ++ t111).size + 1) = False := eq_false (Nat.not_lt.2 c27)
                      try have c27b7 : (9223372036854775807 < 2 + t111.size + 1) = False := eq_false (Nat.not_lt.2 (by have h_ := c27; (try simp only [ByteArray.size_append] at h_); rw [show ((⟨#[43, 45]⟩ : ByteArray).extract 1 (⟨#[43, 45]⟩ : ByteArray).size).size = 1 from by (rw [ByteArray.size_extract]; first | rfl | omega)] at h_; exact h_))
                      try have c27b5 : (9223372036854775807 < ((⟨#[43, 45]⟩ : ByteArray).extract 1 (⟨#[43, 45]⟩ : ByteArray).size).size + 1 + t111.size + 1) = False := eq_false (Nat.not_lt.2 (by have h_ := c27; simp only [ByteArray.size_append] at h_; exact h_))
                      replace H := Option.bind_eq_some_iff.mp H
                      obtain ⟨t112, A280, H⟩ := H
                      replace H : (if (((((⟨#[43, 45]⟩ : ByteArray).extract 1 (⟨#[43, 45]⟩ : ByteArray).size) ++ (⟨#[32]⟩ : ByteArray)) ++ t111) ++ (⟨#[32]⟩ : ByteArray)).size + t112.size ≤ 9223372036854775807 then (some ((((((⟨#[43, 45]⟩ : ByteArray).extract 1 (⟨#[43, 45]⟩ : ByteArray).size) ++ (⟨#[32]⟩ : ByteArray)) ++ t111) ++ (⟨#[32]⟩ : ByteArray)) ++ t112)) else (none)) = some r := H
                      have A28 := Aside0.mk A280
                      clear A280
                      by_cases c29 : (((((⟨#[43, 45]⟩ : ByteArray).extract 1 (⟨#[43, 45]⟩ : ByteArray).size) ++ (⟨#[32]⟩ : ByteArray)) ++ t111) ++ (⟨#[32]⟩ : ByteArray)).size + t112.size ≤ 9223372036854775807
                      · rw [if_pos c29] at H
                        have c29b0 := eq_true c29
                        have c29b1 : decide ((((((⟨#[43, 45]⟩ : ByteArray).extract 1 (⟨#[43, 45]⟩ : ByteArray).size) ++ (⟨#[32]⟩ : ByteArray)) ++ t111) ++ (⟨#[32]⟩ : ByteArray)).size + t112.size ≤ 9223372036854775807) = true := decide_eq_true c29
                        try have c29b2 : (9223372036854775807 < (((((⟨#[43, 45]⟩ : ByteArray).extract 1 (⟨#[43, 45]⟩ : ByteArray).size) ++ (⟨#[32]⟩ : ByteArray)) ++ t111) ++ (⟨#[32]⟩ : ByteArray)).size + t112.size) = False := eq_false (Nat.not_lt.2 c29)
                        try have c29b7 : (9223372036854775807 < 2 + t111.size + 1 + t112.size) = False := eq_false (Nat.not_lt.2 (by have h_ := c29; (try simp only [ByteArray.size_append] at h_); rw [show ((⟨#[43, 45]⟩ : ByteArray).extract 1 (⟨#[43, 45]⟩ : ByteArray).size).size = 1 from by (rw [ByteArray.size_extract]; first | rfl | omega)] at h_; exact h_))
                        try have c29b5 : (9223372036854775807 < ((⟨#[43, 45]⟩ : ByteArray).extract 1 (⟨#[43, 45]⟩ : ByteArray).size).size + 1 + t111.size + 1 + t112.size) = False := eq_false (Nat.not_lt.2 (by have h_ := c29; simp only [ByteArray.size_append] at h_; exact h_))
                        obtain rfl := Option.some.inj H
                        have hcz30_0 : wc.cell? ⟨gb104, 0, none⟩ = some (.int .u32 a0_0) := (blk_cell BK104.out 0).trans rfl
                        have hcz30_1 : wc.cell? ⟨gb104, 1, none⟩ = some (.int .u8 a0_1) := (blk_cell BK104.out 1).trans rfl
                        have hcz30_2 : wc.cell? ⟨gb104, 2, none⟩ = some (.int .u8 a0_2) := (blk_cell BK104.out 2).trans rfl
                        have hfz30_0 := blk_frozen BK104.out 0
                        have hfz30_1 := blk_frozen BK104.out 1
                        have hfz30_2 := blk_frozen BK104.out 2
                        go_wp2_with (first | (go_at_call 27; (try simp only [i64_w]); (with_reducible refine (PDecimal.whispererref06_Decimal.calls kj14 (wrap64 (a0_1)) 10 t111 _ A25.out).mono ?_); rintro e w' ⟨rfl, ⟨nd, rfl⟩⟩; (try first | exact ⟨rfl, _, World.drewN_drewN _ _ _⟩ | exact ⟨rfl, _, Eq.trans (World.drewN_drewN _ _ _) (congrArg (World.drewN _) (Nat.add_assoc _ _ _))⟩)) | (go_at_call 27; (try simp only [i64_w]); (with_reducible refine (PDecimal.whispererref06_Decimal.calls kj14 (wrap64 (a0_2)) 10 t112 _ A28.out).mono ?_); rintro e w' ⟨rfl, ⟨nd, rfl⟩⟩; (try first | exact ⟨rfl, _, World.drewN_drewN _ _ _⟩ | exact ⟨rfl, _, Eq.trans (World.drewN_drewN _ _ _) (congrArg (World.drewN _) (Nat.add_assoc _ _ _))⟩)))
                        repeat (go_quiet (first | (go_at_call 27; (try simp only [i64_w]); (with_reducible refine (PDecimal.whispererref06_Decimal.calls kj14 (wrap64 (a0_1)) 10 t111 _ A25.out).mono ?_); rintro e w' ⟨rfl, ⟨nd, rfl⟩⟩; (try first | exact ⟨rfl, _, World.drewN_drewN _ _ _⟩ | exact ⟨rfl, _, Eq.trans (World.drewN_drewN _ _ _) (congrArg (World.drewN _) (Nat.add_assoc _ _ _))⟩)) | (go_at_call 27; (try simp only [i64_w]); (with_reducible refine (PDecimal.whispererref06_Decimal.calls kj14 (wrap64 (a0_2)) 10 t112 _ A28.out).mono ?_); rintro e w' ⟨rfl, ⟨nd, rfl⟩⟩; (try first | exact ⟨rfl, _, World.drewN_drewN _ _ _⟩ | exact ⟨rfl, _, Eq.trans (World.drewN_drewN _ _ _) (congrArg (World.drewN _) (Nat.add_assoc _ _ _))⟩))); try go_wp2_with (first | (go_at_call 27; (try simp only [i64_w]); (with_reducible refine (PDecimal.whispererref06_Decimal.calls kj14 (wrap64 (a0_1)) 10 t111 _ A25.out).mono ?_); rintro e w' ⟨rfl, ⟨nd, rfl⟩⟩; (try first | exact ⟨rfl, _, World.drewN_drewN _ _ _⟩ | exact ⟨rfl, _, Eq.trans (World.drewN_drewN _ _ _) (congrArg (World.drewN _) (Nat.add_assoc _ _ _))⟩)) | (go_at_call 27; (try simp only [i64_w]); (with_reducible refine (PDecimal.whispererref06_Decimal.calls kj14 (wrap64 (a0_2)) 10 t112 _ A28.out).mono ?_); rintro e w' ⟨rfl, ⟨nd, rfl⟩⟩; (try first | exact ⟨rfl, _, World.drewN_drewN _ _ _⟩ | exact ⟨rfl, _, Eq.trans (World.drewN_drewN _ _ _) (congrArg (World.drewN _) (Nat.add_assoc _ _ _))⟩))))
                        go_ret
                        exact ⟨by first | rfl | (simp [errW_none, errW_some] <;> rfl) | (simp [*, errW_none, errW_some] <;> rfl), by repeat (first | (with_reducible first | exact HB.out | apply below_alloc | apply pw_below_drewN | apply below_drew1 | refine below_set ?_ GE104.out) | exact HB.out)⟩
                      · rw [if_neg c29] at H
                        exact absurd H (by simp)
                    · rw [if_neg c27] at H
                      exact absurd H (by simp)
                  · rw [if_neg c26] at H
                    exact absurd H (by simp)
                · rw [if_neg c24] at H
                  exact absurd H (by simp)
              · rw [if_neg c23] at H
                exact absurd H (by simp)
            · rw [if_neg c22] at H
              have c22b0 : (x3_14.toList == ([] : List UInt8)) = false := beq_eq_false_iff_ne.mpr c22
              have c22b1 : (x3_14.toList != ([] : List UInt8)) = true := bne_iff_ne.mpr c22
              by_cases c31 : 1 ≤ (x3_14.size : Int)
              · rw [if_pos c31] at H
                have c31b0 := eq_true c31
                have c31b1 : decide (1 ≤ (x3_14.size : Int)) = true := decide_eq_true c31
                clear c31
                by_cases c32 : (x3_14.extract 1 x3_14.size).size + 1 ≤ 9223372036854775807
                · rw [if_pos c32] at H
                  have c32b0 := eq_true c32
                  have c32b1 : decide ((x3_14.extract 1 x3_14.size).size + 1 ≤ 9223372036854775807) = true := decide_eq_true c32
                  try have c32b2 : (9223372036854775807 < (x3_14.extract 1 x3_14.size).size + 1) = False := eq_false (Nat.not_lt.2 c32)
                  try have c32b7 : (9223372036854775807 < x3_14.size - 1 + 1) = False := eq_false (Nat.not_lt.2 (by have h_ := c32; (try simp only [ByteArray.size_append] at h_); rw [show (x3_14.extract 1 x3_14.size).size = x3_14.size - 1 from by (rw [ByteArray.size_extract]; first | rfl | omega)] at h_; exact h_))
                  replace H := Option.bind_eq_some_iff.mp H
                  obtain ⟨t113, A330, H⟩ := H
                  replace H : (if ((x3_14.extract 1 x3_14.size) ++ (⟨#[32]⟩ : ByteArray)).size + t113.size ≤ 9223372036854775807 then (if (((x3_14.extract 1 x3_14.size) ++ (⟨#[32]⟩ : ByteArray)) ++ t113).size + 1 ≤ 9223372036854775807 then ((PDecimal.whispererref06_Decimal.f kj14 (wrap64 (a0_2)) 10).bind fun t114 => (if ((((x3_14.extract 1 x3_14.size) ++ (⟨#[32]⟩ : ByteArray)) ++ t113) ++ (⟨#[32]⟩ : ByteArray)).size + t114.size ≤ 9223372036854775807 then (some (((((x3_14.extract 1 x3_14.size) ++ (⟨#[32]⟩ : ByteArray)) ++ t113) ++ (⟨#[32]⟩ : ByteArray)) ++ t114)) else (none))) else (none)) else (none)) = some r := H
                  have A33 := Aside0.mk A330
                  clear A330
                  by_cases c34 : ((x3_14.extract 1 x3_14.size) ++ (⟨#[32]⟩ : ByteArray)).size + t113.size ≤ 9223372036854775807
                  · rw [if_pos c34] at H
                    have c34b0 := eq_true c34
                    have c34b1 : decide (((x3_14.extract 1 x3_14.size) ++ (⟨#[32]⟩ : ByteArray)).size + t113.size ≤ 9223372036854775807) = true := decide_eq_true c34
                    try have c34b2 : (9223372036854775807 < ((x3_14.extract 1 x3_14.size) ++ (⟨#[32]⟩ : ByteArray)).size + t113.size) = False := eq_false (Nat.not_lt.2 c34)
                    try have c34b7 : (9223372036854775807 < x3_14.size - 1 + 1 + t113.size) = False := eq_false (Nat.not_lt.2 (by have h_ := c34; (try simp only [ByteArray.size_append] at h_); rw [show (x3_14.extract 1 x3_14.size).size = x3_14.size - 1 from by (rw [ByteArray.size_extract]; first | rfl | omega)] at h_; exact h_))
                    try have c34b5 : (9223372036854775807 < (x3_14.extract 1 x3_14.size).size + 1 + t113.size) = False := eq_false (Nat.not_lt.2 (by have h_ := c34; simp only [ByteArray.size_append] at h_; exact h_))
                    by_cases c35 : (((x3_14.extract 1 x3_14.size) ++ (⟨#[32]⟩ : ByteArray)) ++ t113).size + 1 ≤ 9223372036854775807
                    · rw [if_pos c35] at H
                      have c35b0 := eq_true c35
                      have c35b1 : decide ((((x3_14.extract 1 x3_14.size) ++ (⟨#[32]⟩ : ByteArray)) ++ t113).size + 1 ≤ 9223372036854775807) = true := decide_eq_true c35
                      try have c35b2 : (9223372036854775807 < (((x3_14.extract 1 x3_14.size) ++ (⟨#[32]⟩ : ByteArray)) ++ t113).size + 1) = False := eq_false (Nat.not_lt.2 c35)
                      try have c35b7 : (9223372036854775807 < x3_14.size - 1 + 1 + t113.size + 1) = False := eq_false (Nat.not_lt.2 (by have h_ := c35; (try simp only [ByteArray.size_append] at h_); rw [show (x3_14.extract 1 x3_14.size).size = x3_14.size - 1 from by (rw [ByteArray.size_extract]; first | rfl | omega)] at h_; exact h_))
                      try have c35b5 : (9223372036854775807 < (x3_14.extract 1 x3_14.size).size + 1 + t113.size + 1) = False := eq_false (Nat.not_lt.2 (by have h_ := c35; simp only [ByteArray.size_append] at h_; exact h_))
                      replace H := Option.bind_eq_some_iff.mp H
                      obtain ⟨t114, A360, H⟩ := H
                      replace H : (if ((((x3_14.extract 1 x3_14.size) ++ (⟨#[32]⟩ : ByteArray)) ++ t113) ++ (⟨#[32]⟩ : ByteArray)).size + t114.size ≤ 9223372036854775807 then (some (((((x3_14.extract 1 x3_14.size) ++ (⟨#[32]⟩ : ByteArray)) ++ t113) ++ (⟨#[32]⟩ : ByteArray)) ++ t114)) else (none)) = some r := H
                      have A36 := Aside0.mk A360
                      clear A360
                      by_cases c37 : ((((x3_14.extract 1 x3_14.size) ++ (⟨#[32]⟩ : ByteArray)) ++ t113) ++ (⟨#[32]⟩ : ByteArray)).size + t114.size ≤ 9223372036854775807
                      · rw [if_pos c37] at H
                        have c37b0 := eq_true c37
                        have c37b1 : decide (((((x3_14.extract 1 x3_14.size) ++ (⟨#[32]⟩ : ByteArray)) ++ t113) ++ (⟨#[32]⟩ : ByteArray)).size + t114.size ≤ 9223372036854775807) = true := decide_eq_true c37
                        try have c37b2 : (9223372036854775807 < ((((x3_14.extract 1 x3_14.size) ++ (⟨#[32]⟩ : ByteArray)) ++ t113) ++ (⟨#[32]⟩ : ByteArray)).size + t114.size) = False := eq_false (Nat.not_lt.2 c37)
                        try have c37b7 : (9223372036854775807 < x3_14.size - 1 + 1 + t113.size + 1 + t114.size) = False := eq_false (Nat.not_lt.2 (by have h_ := c37; (try simp only [ByteArray.size_append] at h_); rw [show (x3_14.extract 1 x3_14.size).size = x3_14.size - 1 from by (rw [ByteArray.size_extract]; first | rfl | omega)] at h_; exact h_))
                        try have c37b5 : (9223372036854775807 < (x3_14.extract 1 x3_14.size).size + 1 + t113.size + 1 + t114.size) = False := eq_false (Nat.not_lt.2 (by have h_ := c37; simp only [ByteArray.size_append] at h_; exact h_))
                        obtain rfl := Option.some.inj H
                        have hcz38_0 : wc.cell? ⟨gb104, 0, none⟩ = some (.int .u32 a0_0) := (blk_cell BK104.out 0).trans rfl
                        have hcz38_1 : wc.cell? ⟨gb104, 1, none⟩ = some (.int .u8 a0_1) := (blk_cell BK104.out 1).trans rfl
                        have hcz38_2 : wc.cell? ⟨gb104, 2, none⟩ = some (.int .u8 a0_2) := (blk_cell BK104.out 2).trans rfl
                        have hfz38_0 := blk_frozen BK104.out 0
                        have hfz38_1 := blk_frozen BK104.out 1
                        have hfz38_2 := blk_frozen BK104.out 2
                        go_wp2_with (first | (go_at_call 27; (try simp only [i64_w]); (with_reducible refine (PDecimal.whispererref06_Decimal.calls kj14 (wrap64 (a0_1)) 10 t113 _ A33.out).mono ?_); rintro e w' ⟨rfl, ⟨nd, rfl⟩⟩; (try first | exact ⟨rfl, _, World.drewN_drewN _ _ _⟩ | exact ⟨rfl, _, Eq.trans (World.drewN_drewN _ _ _) (congrArg (World.drewN _) (Nat.add_assoc _ _ _))⟩)) | (go_at_call 27; (try simp only [i64_w]); (with_reducible refine (PDecimal.whispererref06_Decimal.calls kj14 (wrap64 (a0_2)) 10 t114 _ A36.out).mono ?_); rintro e w' ⟨rfl, ⟨nd, rfl⟩⟩; (try first | exact ⟨rfl, _, World.drewN_drewN _ _ _⟩ | exact ⟨rfl, _, Eq.trans (World.drewN_drewN _ _ _) (congrArg (World.drewN _) (Nat.add_assoc _ _ _))⟩)))
                        repeat (go_quiet (first | (go_at_call 27; (try simp only [i64_w]); (with_reducible refine (PDecimal.whispererref06_Decimal.calls kj14 (wrap64 (a0_1)) 10 t113 _ A33.out).mono ?_); rintro e w' ⟨rfl, ⟨nd, rfl⟩⟩; (try first | exact ⟨rfl, _, World.drewN_drewN _ _ _⟩ | exact ⟨rfl, _, Eq.trans (World.drewN_drewN _ _ _) (congrArg (World.drewN _) (Nat.add_assoc _ _ _))⟩)) | (go_at_call 27; (try simp only [i64_w]); (with_reducible refine (PDecimal.whispererref06_Decimal.calls kj14 (wrap64 (a0_2)) 10 t114 _ A36.out).mono ?_); rintro e w' ⟨rfl, ⟨nd, rfl⟩⟩; (try first | exact ⟨rfl, _, World.drewN_drewN _ _ _⟩ | exact ⟨rfl, _, Eq.trans (World.drewN_drewN _ _ _) (congrArg (World.drewN _) (Nat.add_assoc _ _ _))⟩))); try go_wp2_with (first | (go_at_call 27; (try simp only [i64_w]); (with_reducible refine (PDecimal.whispererref06_Decimal.calls kj14 (wrap64 (a0_1)) 10 t113 _ A33.out).mono ?_); rintro e w' ⟨rfl, ⟨nd, rfl⟩⟩; (try first | exact ⟨rfl, _, World.drewN_drewN _ _ _⟩ | exact ⟨rfl, _, Eq.trans (World.drewN_drewN _ _ _) (congrArg (World.drewN _) (Nat.add_assoc _ _ _))⟩)) | (go_at_call 27; (try simp only [i64_w]); (with_reducible refine (PDecimal.whispererref06_Decimal.calls kj14 (wrap64 (a0_2)) 10 t114 _ A36.out).mono ?_); rintro e w' ⟨rfl, ⟨nd, rfl⟩⟩; (try first | exact ⟨rfl, _, World.drewN_drewN _ _ _⟩ | exact ⟨rfl, _, Eq.trans (World.drewN_drewN _ _ _) (congrArg (World.drewN _) (Nat.add_assoc _ _ _))⟩))))
                        go_ret
                        exact ⟨by first | rfl | (simp [errW_none, errW_some] <;> rfl) | (simp [*, errW_none, errW_some] <;> rfl), by repeat (first | (with_reducible first | exact HB.out | apply below_alloc | apply pw_below_drewN | apply below_drew1 | refine below_set ?_ GE104.out) | exact HB.out)⟩
                      · rw [if_neg c37] at H
                        exact absurd H (by simp)
                    · rw [if_neg c35] at H
                      exact absurd H (by simp)
                  · rw [if_neg c34] at H
                    exact absurd H (by simp)
                · rw [if_neg c32] at H
                  exact absurd H (by simp)
              · rw [if_neg c31] at H
                exact absurd H (by simp)

-- BY HAND: function 32 (whispererref06_Cut)

-- BY HAND: function 33 (whispererref06_Number)

end Go.Proofs.YtbiogabekhegaaaGreatDoor.PRead
