-- Printed by a changed copy of the kit's print program that takes contracts proved by hand. Not trusted: Lean checks it.
import Derived.Test.YtjlfpkgnkgbhiaaPKnownx0
namespace Go.Proofs.Ytjlfpkgnkgbhiaa.PKnown
open Go.RowKit Go.Proofs.YtjlfpkgnkgbhiaaW.PrintWords Go.Proofs.YtjlfpkgnkgbhiaaW.PrintLast Go.Proofs.YtjlfpkgnkgbhiaaW.PrintMore
attribute [local go_sem] max2_int min2_int max_two min_two max_three min_three max_four min_four   -- for this text's walks alone
set_option linter.unusedVariables false
set_option linter.unusedSimpArgs false

/-! ### whispererref09_Known: function 15 -/
def whispererref09_Known.l0 : Nat → List ByteArray → Int → Option (List ByteArray)
  | 0, _, _ => none
  | k + 1, x1, x2 => if x2 < (x1.length : Int) then (if 0 ≤ x2 then (if 1 + (rdOf ByteArray.empty x1 x2).size ≤ 9223372036854775807 then (whispererref09_Known.l0 k (x1.set (x2 : Int).toNat ((⟨#[27]⟩ : ByteArray) ++ (rdOf ByteArray.empty x1 x2))) (wrap64 (x2 + 1))) else (none)) else (none)) else (some x1)
def whispererref09_Known.f (k : Nat)  : Option (List ByteArray) := whispererref09_Known.l0 k (([(⟨#[79, 67]⟩ : ByteArray), (⟨#[79, 68]⟩ : ByteArray), (⟨#[79, 70]⟩ : ByteArray), (⟨#[79, 72]⟩ : ByteArray), (⟨#[91, 49, 126]⟩ : ByteArray), (⟨#[91, 50, 48, 48, 126]⟩ : ByteArray), (⟨#[91, 50, 48, 49, 126]⟩ : ByteArray), (⟨#[91, 51, 126]⟩ : ByteArray), (⟨#[91, 52, 126]⟩ : ByteArray), (⟨#[91, 55, 126]⟩ : ByteArray), (⟨#[91, 56, 126]⟩ : ByteArray), (⟨#[91, 67]⟩ : ByteArray), (⟨#[91, 68]⟩ : ByteArray), (⟨#[91, 70]⟩ : ByteArray), (⟨#[91, 72]⟩ : ByteArray)] : List ByteArray)) 0
theorem whispererref09_Known.mono_l : ∀ k, (∀ y0 y1, LeO (whispererref09_Known.l0 k y0 y1) (whispererref09_Known.l0 (k + 1) y0 y1))
  | 0 => fun _ _ r h => by simp [whispererref09_Known.l0] at h
  | k + 1 => by
    have ih0 := whispererref09_Known.mono_l k
    · intro y0 y1
      unfold whispererref09_Known.l0
      repeat' first
      | (with_reducible exact ih0 _ _)
      | (with_reducible exact LeO.refl _)
      | (with_reducible exact LeO.none _)
      | (with_reducible refine LeO.ite ?_ ?_)
      | (with_reducible refine LeO.bind ?_ (fun _ => ?_))
      | exact ih0 _ _
      | exact LeO.none _
      | refine LeO.ite ?_ ?_
      | refine LeO.bind ?_ (fun _ => ?_)
theorem whispererref09_Known.mono : ∀ k, LeO (whispererref09_Known.f k ) (whispererref09_Known.f (k + 1) ) := by
  intro  k
  have ih0 := whispererref09_Known.mono_l k
  unfold whispererref09_Known.f
  repeat' first
      | (with_reducible exact ih0 _ _)
      | (with_reducible exact LeO.refl _)
      | (with_reducible exact LeO.none _)
      | (with_reducible refine LeO.ite ?_ ?_)
      | (with_reducible refine LeO.bind ?_ (fun _ => ?_))
      | exact ih0 _ _
      | exact LeO.none _
      | refine LeO.ite ?_ ?_
      | refine LeO.bind ?_ (fun _ => ?_)
set_option maxHeartbeats 8000000 in
set_option maxRecDepth 100000 in
theorem whispererref09_Known.calls (k : Nat)  (r : List ByteArray) (w : World) (h : whispererref09_Known.f k  = some r) :
    Calls Try.prog 15 #[] w fun e w' => ∃ v0_ : Value, e = .returned (v0_) ∧ Kd.R Kd.string 9 w' w.heap.size (fun _ => True) v0_ r ∧ Below w.heap.size w w' := by
  have HB := Aside0.mk (Below.refl w.heap.size w)
  have H : (whispererref09_Known.l0 k (([(⟨#[79, 67]⟩ : ByteArray), (⟨#[79, 68]⟩ : ByteArray), (⟨#[79, 70]⟩ : ByteArray), (⟨#[79, 72]⟩ : ByteArray), (⟨#[91, 49, 126]⟩ : ByteArray), (⟨#[91, 50, 48, 48, 126]⟩ : ByteArray), (⟨#[91, 50, 48, 49, 126]⟩ : ByteArray), (⟨#[91, 51, 126]⟩ : ByteArray), (⟨#[91, 52, 126]⟩ : ByteArray), (⟨#[91, 55, 126]⟩ : ByteArray), (⟨#[91, 56, 126]⟩ : ByteArray), (⟨#[91, 67]⟩ : ByteArray), (⟨#[91, 68]⟩ : ByteArray), (⟨#[91, 70]⟩ : ByteArray), (⟨#[91, 72]⟩ : ByteArray)] : List ByteArray)) 0) = some r := h
  clear h
  obtain ⟨y101, hy101⟩ : ∃ y_ : List ByteArray, y_ = (([(⟨#[79, 67]⟩ : ByteArray), (⟨#[79, 68]⟩ : ByteArray), (⟨#[79, 70]⟩ : ByteArray), (⟨#[79, 72]⟩ : ByteArray), (⟨#[91, 49, 126]⟩ : ByteArray), (⟨#[91, 50, 48, 48, 126]⟩ : ByteArray), (⟨#[91, 50, 48, 49, 126]⟩ : ByteArray), (⟨#[91, 51, 126]⟩ : ByteArray), (⟨#[91, 52, 126]⟩ : ByteArray), (⟨#[91, 55, 126]⟩ : ByteArray), (⟨#[91, 56, 126]⟩ : ByteArray), (⟨#[91, 67]⟩ : ByteArray), (⟨#[91, 68]⟩ : ByteArray), (⟨#[91, 70]⟩ : ByteArray), (⟨#[91, 72]⟩ : ByteArray)] : List ByteArray)) := ⟨_, rfl⟩
  replace H : (whispererref09_Known.l0 k y101 0) = some r := by first | (rw [hy101]; with_reducible exact H) | (have H2_ := (Option.bind_some _ _).symm.trans H; rw [hy101]; with_reducible exact H2_) | (have H2_ := (Option.bind_some _ _).symm.trans H; with_reducible exact H2_) | with_reducible exact H | (rw [hy101]; exact H) | exact H
  have Ny101 := Aside0.mk hy101
  clear hy101
  have H' := Aside0.mk H
  clear H
  go_enter Try.func15, Try.ntmps15
  go_wp2_with (first | ((with_reducible refine gate_dst (N := 3) rfl ?_); refine Kd.R_lit Kd.string _ 9 ?hg (N := 3) ?hd (xs := ([(⟨#[79, 67]⟩ : ByteArray), (⟨#[79, 68]⟩ : ByteArray), (⟨#[79, 70]⟩ : ByteArray), (⟨#[79, 72]⟩ : ByteArray), (⟨#[91, 49, 126]⟩ : ByteArray), (⟨#[91, 50, 48, 48, 126]⟩ : ByteArray), (⟨#[91, 50, 48, 49, 126]⟩ : ByteArray), (⟨#[91, 51, 126]⟩ : ByteArray), (⟨#[91, 52, 126]⟩ : ByteArray), (⟨#[91, 55, 126]⟩ : ByteArray), (⟨#[91, 56, 126]⟩ : ByteArray), (⟨#[91, 67]⟩ : ByteArray), (⟨#[91, 68]⟩ : ByteArray), (⟨#[91, 70]⟩ : ByteArray), (⟨#[91, 72]⟩ : ByteArray)] : List ByteArray)) (inner := [.string (⟨#[79, 67]⟩ : ByteArray), .string (⟨#[79, 68]⟩ : ByteArray), .string (⟨#[79, 70]⟩ : ByteArray), .string (⟨#[79, 72]⟩ : ByteArray), .string (⟨#[91, 49, 126]⟩ : ByteArray), .string (⟨#[91, 50, 48, 48, 126]⟩ : ByteArray), .string (⟨#[91, 50, 48, 49, 126]⟩ : ByteArray), .string (⟨#[91, 51, 126]⟩ : ByteArray), .string (⟨#[91, 52, 126]⟩ : ByteArray), .string (⟨#[91, 55, 126]⟩ : ByteArray), .string (⟨#[91, 56, 126]⟩ : ByteArray), .string (⟨#[91, 67]⟩ : ByteArray), .string (⟨#[91, 68]⟩ : ByteArray), .string (⟨#[91, 70]⟩ : ByteArray), .string (⟨#[91, 72]⟩ : ByteArray)]) (ok := fun _ => True) (okp := fun _ => True) ?hr ?hp (fun _ hk => hk) trivial (Below.refl _ _) (Nat.le_refl _) (by simp) ?_; (case hd => rfl); (case hg => rfl); (case hr => first | (go_simp; done) | (go_simp; rfl)); (case hp => exact (Reps.one (show Kd.M Kd.string _ _ _ (⟨#[79, 67]⟩ : ByteArray) [.string (⟨#[79, 67]⟩ : ByteArray)] from rfl) (Reps.one (show Kd.M Kd.string _ _ _ (⟨#[79, 68]⟩ : ByteArray) [.string (⟨#[79, 68]⟩ : ByteArray)] from rfl) (Reps.one (show Kd.M Kd.string _ _ _ (⟨#[79, 70]⟩ : ByteArray) [.string (⟨#[79, 70]⟩ : ByteArray)] from rfl) (Reps.one (show Kd.M Kd.string _ _ _ (⟨#[79, 72]⟩ : ByteArray) [.string (⟨#[79, 72]⟩ : ByteArray)] from rfl) (Reps.one (show Kd.M Kd.string _ _ _ (⟨#[91, 49, 126]⟩ : ByteArray) [.string (⟨#[91, 49, 126]⟩ : ByteArray)] from rfl) (Reps.one (show Kd.M Kd.string _ _ _ (⟨#[91, 50, 48, 48, 126]⟩ : ByteArray) [.string (⟨#[91, 50, 48, 48, 126]⟩ : ByteArray)] from rfl) (Reps.one (show Kd.M Kd.string _ _ _ (⟨#[91, 50, 48, 49, 126]⟩ : ByteArray) [.string (⟨#[91, 50, 48, 49, 126]⟩ : ByteArray)] from rfl) (Reps.one (show Kd.M Kd.string _ _ _ (⟨#[91, 51, 126]⟩ : ByteArray) [.string (⟨#[91, 51, 126]⟩ : ByteArray)] from rfl) (Reps.one (show Kd.M Kd.string _ _ _ (⟨#[91, 52, 126]⟩ : ByteArray) [.string (⟨#[91, 52, 126]⟩ : ByteArray)] from rfl) (Reps.one (show Kd.M Kd.string _ _ _ (⟨#[91, 55, 126]⟩ : ByteArray) [.string (⟨#[91, 55, 126]⟩ : ByteArray)] from rfl) (Reps.one (show Kd.M Kd.string _ _ _ (⟨#[91, 56, 126]⟩ : ByteArray) [.string (⟨#[91, 56, 126]⟩ : ByteArray)] from rfl) (Reps.one (show Kd.M Kd.string _ _ _ (⟨#[91, 67]⟩ : ByteArray) [.string (⟨#[91, 67]⟩ : ByteArray)] from rfl) (Reps.one (show Kd.M Kd.string _ _ _ (⟨#[91, 68]⟩ : ByteArray) [.string (⟨#[91, 68]⟩ : ByteArray)] from rfl) (Reps.one (show Kd.M Kd.string _ _ _ (⟨#[91, 70]⟩ : ByteArray) [.string (⟨#[91, 70]⟩ : ByteArray)] from rfl) (Reps.one (show Kd.M Kd.string _ _ _ (⟨#[91, 72]⟩ : ByteArray) [.string (⟨#[91, 72]⟩ : ByteArray)] from rfl) (Reps.none _ _))))))))))))))))); intro v102 w1 ho2 hb hg_ hnew_; clear hg_ hnew_; (first | rw [← Ny101.out] at ho2 | (simp only [Int.reduceToNat] at ho2; rw [← Ny101.out] at ho2)); have n0_ := Aside0.mk (Kd.R_lower ho2 (below_size (by repeat (first | (with_reducible first | exact HB.out | apply below_alloc | apply pw_below_drewN | apply below_drew1) | exact HB.out)))); have n1_ := Aside0.mk (below_step (by repeat (first | (with_reducible first | exact HB.out | apply below_alloc | apply pw_below_drewN | apply below_drew1) | exact HB.out)) hb); clear HB; have HO103 := n0_; have HB := n1_; clear n0_ n1_; clear hb ho2))
  go_loopg [2] k (fun kq v2 w' => ∃ (x1_1 : List ByteArray) (x2_1 : Int), v2 = .int .i64 x2_1 ∧ Aside0 (whispererref09_Known.l0 kq x1_1 x2_1 = some r) ∧ Aside0 (kq ≤ k) ∧ Aside0 (Kd.R Kd.string 9 w' w.heap.size (fun _ => True) v102 x1_1) ∧ Aside0 (Below w.heap.size w w'))
  case atStart => exact ⟨(y101), (0), (by first | rfl | (simp; done) | (simp [*]; done)), H', ⟨Nat.le_refl _⟩, ⟨by (with_reducible repeat (first | apply Kd.R_alloc | apply Kd.R_drewN | apply Kd.R_drew)); exact HO103.out⟩, ⟨by repeat (first | (with_reducible first | exact HB.out | apply below_alloc | apply pw_below_drewN | apply below_drew1) | exact HB.out)⟩⟩
  case round =>
    clear H'
    try clear c1
    try clear p2
    obtain ⟨x1_1, x2_1, rfl, HA, HK1, HO_1, HB⟩ := hrel
    cases gk with
    | zero => exact absurd HA.out (by simp [whispererref09_Known.l0])
    | succ k1 =>
      have H := HA.out
      clear HA
      simp only [whispererref09_Known.l0] at H
      by_cases c3 : x2_1 < (x1_1.length : Int)
      · rw [if_pos c3] at H
        have c3b0 : decide (x2_1 < (x1_1.length : Int)) = true := decide_eq_true c3
        clear c3
        by_cases c4 : 0 ≤ x2_1
        · rw [if_pos c4] at H
          have c4b0 : decide (0 ≤ x2_1) = true := decide_eq_true c4
          clear c4
          by_cases c5 : 1 + (rdOf ByteArray.empty x1_1 x2_1).size ≤ 9223372036854775807
          · rw [if_pos c5] at H
            have c5b0 := eq_true c5
            have c5b1 : decide (1 + (rdOf ByteArray.empty x1_1 x2_1).size ≤ 9223372036854775807) = true := decide_eq_true c5
            try have c5b2 : (9223372036854775807 < 1 + (rdOf ByteArray.empty x1_1 x2_1).size) = False := eq_false (Nat.not_lt.2 c5)
            obtain ⟨y105, hy105⟩ : ∃ y_ : List ByteArray, y_ = (x1_1.set (x2_1 : Int).toNat ((⟨#[27]⟩ : ByteArray) ++ (rdOf ByteArray.empty x1_1 x2_1))) := ⟨_, rfl⟩
            replace H : (whispererref09_Known.l0 k1 y105 (wrap64 (x2_1 + 1))) = some r := by first | (rw [hy105]; with_reducible exact H) | (have H2_ := (Option.bind_some _ _).symm.trans H; rw [hy105]; with_reducible exact H2_) | (have H2_ := (Option.bind_some _ _).symm.trans H; with_reducible exact H2_) | with_reducible exact H | (rw [hy105]; exact H) | exact H
            have Ny105 := Aside0.mk hy105
            clear hy105
            have H' := Aside0.mk H
            clear H
            obtain ⟨Ao7, co7, eo7⟩ := Kd.R_slice HO_1.out
            subst eo7
            have p104 : 0 ≤ (x2_1 : Int) := of_decide_eq_true (by first | (with_reducible assumption) | assumption)
            have q104 : x2_1 < (x1_1.length : Int) := of_decide_eq_true (by first | (with_reducible assumption) | assumption)
            obtain ⟨ad104, e104, hx104_0⟩ := Kd.at_string (Kd.R_reads' HO_1.out).2.2 x2_1 p104 q104
            cases e104
            replace p104 := eq_true p104
            replace q104 := eq_true q104
            have p6 : 0 ≤ (x2_1 : Int) := of_decide_eq_true (by first | (with_reducible assumption) | assumption)
            have q6 : (x2_1 : Int) < ((x1_1.length : Int) : Int) := of_decide_eq_true (by first | (with_reducible assumption) | assumption)
            obtain ⟨go6, co6, eo6, gb6, gl6, cl6, HG6⟩ := Kd.R_form HO_1.out (by omega)
            (first | cases eo6 | (injection eo6 with ea_ en_ ec_; (first | subst ea_ | (injection ea_ with ea_; subst ea_)); subst ec_; clear en_))
            have GB6 := Aside0.mk gb6
            have GG6 := Aside0.mk HG6
            clear gb6 gl6 HG6
            (first | simp only [add_plain] at hx104_0 | skip)
            obtain ⟨hx6_0, hf6_0⟩ := Kd.R_celln (⟨#[]⟩ : ByteArray) HO_1.out (x2_1 : Int) p6 q6
            replace p6 := eq_true p6
            replace q6 := eq_true q6
            have HP8 := Kd.R_putg HO_1.out (x2_1 : Int) ((⟨#[27]⟩ : ByteArray) ++ (rdOf ByteArray.empty x1_1 x2_1))
            go_wp2_with (first | ((with_reducible refine gate_store (t := 9) (p := 17) rfl ?_); refine store_event (t := 9) (p := 17) (v := ?vo_w9) (w1 := (wr.setCell ⟨go6, (x2_1 : Int).toNat, none⟩ (.string ((⟨#[27]⟩ : ByteArray) ++ (rdOf ByteArray.empty x1_1 x2_1))))) ?hg ?ho ?hn ?hr ?_; (case ho => rfl); (case hg => rfl); (case hn => rfl); (case hr => first | (go_simp; done) | (go_simp; rfl)); intro w9 hw; have hg : wr.grownBy w9 (some go6) := (by rw [hw]; exact HP8.2); have hp_ : Kd.R Kd.string 9 w9 w.heap.size (fun _ => True) (.slice (some ⟨go6, 0, none⟩) x1_1.length co7) y105 := (by rw [hw, Ny105.out]; exact HP8.1); clear HP8; have n0_ := Aside0.mk (hp_); have n1_ := Aside0.mk ((by rw [hw]; exact below_set (HB.out) GB6.out : Below w.heap.size w w9)); clear HO_1; clear HB; have HO_1 := n0_; have HB := n1_; clear n0_ n1_; clear hg hw hp_))
            go_roundg k1
            case measure => have := HK1.out; omega
            case rel => exact ⟨(y105), (wrap64 (x2_1 + 1)), (by first | rfl | (simp; done) | (simp [*]; done)), H', ⟨by have := HK1.out; omega⟩, ⟨by (with_reducible repeat (first | apply Kd.R_alloc | apply Kd.R_drewN | apply Kd.R_drew)); exact HO_1.out⟩, ⟨by repeat (first | (with_reducible first | exact HB.out | apply below_alloc | apply pw_below_drewN | apply below_drew1) | exact HB.out)⟩⟩
          · rw [if_neg c5] at H
            exact absurd H (by simp)
        · rw [if_neg c4] at H
          exact absurd H (by simp)
      · rw [if_neg c3] at H
        have c3b0 : decide (x2_1 < (x1_1.length : Int)) = false := decide_eq_false c3
        clear c3
        obtain rfl := Option.some.inj H
        obtain ⟨Ao10, co10, eo10⟩ := Kd.R_slice HO_1.out
        subst eo10
        go_wp2
        go_ret
        exact ⟨_, by first | rfl | (simp [errW_none, errW_some] <;> rfl) | (simp [*, errW_none, errW_some] <;> rfl), by (with_reducible repeat (first | apply Kd.R_alloc | apply Kd.R_drewN | apply Kd.R_drew)); exact HO_1.out, by repeat (first | (with_reducible first | exact HB.out | apply below_alloc | apply pw_below_drewN | apply below_drew1) | exact HB.out)⟩

end Go.Proofs.Ytjlfpkgnkgbhiaa.PKnown
