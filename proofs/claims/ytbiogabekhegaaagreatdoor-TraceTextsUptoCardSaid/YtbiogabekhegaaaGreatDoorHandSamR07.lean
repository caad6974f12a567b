/- The document's Same. -/
import Derived.Test.YtbiogabekhegaaaGreatDoorHandWritten07
namespace Go.Proofs.YtbiogabekhegaaaGreatDoor.Hand
open Go.RowKit Go.Proofs.YtbiogabekhegaaaGreatDoorW.PrintWords Go.Proofs.YtbiogabekhegaaaGreatDoorW.PrintLast
open Go.Proofs.YtbiogabekhegaaaGreatDoor.PWritten (S27 S25 k27 z27 rd_T27 at_T27 k27_mk)
attribute [local go_sem high] Go.Proofs.YtbiogabekhegaaaGreatDoor.Psame.eqA25
set_option linter.unusedVariables false
set_option linter.unusedSimpArgs false
theorem belowN (w : World) (n : Nat) : Below w.heap.size w (w.drewN n) := ⟨rfl, rfl, rfl, Nat.le_refl _, fun _ _ => rfl⟩
theorem sameE_cases (a0 a1 a2 a3 : Int) (a4 : List Int) (a5 : Int) (a6 : Bool) (b0 b1 b2 b3 : Int) (b4 : List Int) (b5 : Int) (b6 : Bool) :
    (a0 ≠ b0 ∧ sameE ⟨a0, ⟨a1, a2, a3⟩, a4, a5, a6⟩ ⟨b0, ⟨b1, b2, b3⟩, b4, b5, b6⟩ = false) ∨
    (a0 = b0 ∧ (a1 == b1 && (a2 == b2 && (a3 == b3))) = false ∧ sameE ⟨a0, ⟨a1, a2, a3⟩, a4, a5, a6⟩ ⟨b0, ⟨b1, b2, b3⟩, b4, b5, b6⟩ = false) ∨
    (a0 = b0 ∧ (a1 == b1 && (a2 == b2 && (a3 == b3))) = true ∧ ((strOfNums a4).toList == (strOfNums b4).toList) = false ∧ sameE ⟨a0, ⟨a1, a2, a3⟩, a4, a5, a6⟩ ⟨b0, ⟨b1, b2, b3⟩, b4, b5, b6⟩ = false) ∨
    (a0 = b0 ∧ (a1 == b1 && (a2 == b2 && (a3 == b3))) = true ∧ ((strOfNums a4).toList == (strOfNums b4).toList) = true ∧ a5 ≠ b5 ∧ sameE ⟨a0, ⟨a1, a2, a3⟩, a4, a5, a6⟩ ⟨b0, ⟨b1, b2, b3⟩, b4, b5, b6⟩ = false) ∨
    (a0 = b0 ∧ (a1 == b1 && (a2 == b2 && (a3 == b3))) = true ∧ ((strOfNums a4).toList == (strOfNums b4).toList) = true ∧ a5 = b5 ∧ sameE ⟨a0, ⟨a1, a2, a3⟩, a4, a5, a6⟩ ⟨b0, ⟨b1, b2, b3⟩, b4, b5, b6⟩ = (a6 == b6)) := by
  unfold sameE
  simp only
  by_cases e0 : a0 = b0
  · cases e1 : (a1 == b1 && (a2 == b2 && (a3 == b3)))
    · exact .inr (.inl ⟨e0, rfl, by simp⟩)
    · cases e2 : ((strOfNums a4).toList == (strOfNums b4).toList)
      · exact .inr (.inr (.inl ⟨e0, rfl, rfl, by simp⟩))
      · by_cases e3 : a5 = b5
        · exact .inr (.inr (.inr (.inr ⟨e0, rfl, rfl, e3, by simp [e0, e3]⟩)))
        · exact .inr (.inr (.inr (.inl ⟨e0, rfl, rfl, e3, by simp [e3]⟩)))
  · exact .inl ⟨e0, by simp [e0]⟩
set_option maxHeartbeats 4000000 in
set_option maxRecDepth 100000 in
theorem refSame_ok (xs ys : List S27) (A B : Option Addr) (c d : Nat) (w : World) (hx : Kd.C k27 w A xs.length xs) (hy : Kd.C k27 w B ys.length ys) :
    Calls Tryz.prog 15 #[.slice A xs.length c, .slice B ys.length d] w fun e w' => e = .returned (.bool (sameL xs ys)) ∧ Below w.heap.size w w' := by
  have hxm := Kd.C_max hx
  have HX := Aside0.mk hx
  have HY := Aside0.mk hy
  clear hx hy
  by_cases hl : xs.length = ys.length
  · have hlI : ((xs.length : Int) != (ys.length : Int)) = false := by simp; omega
    generalize hxn : xs.length = n at *
    generalize hyn : ys.length = m at *
    subst hl
    have hnA := Aside0.mk (And.intro hxn hyn)
    clear hxn hyn
    go_enter Tryz.func15, Tryz.ntmps15
    go_wp2_with (fail)
    go_loopw [5] (fun v5 wr => ∃ x : Int, v5 = .int .i64 x ∧ Aside0 (0 ≤ x ∧ x ≤ n) ∧ Aside0 (∀ j : Nat, j < x.toNat → sameE (rd_T27 xs j) (rd_T27 ys j) = true) ∧ Aside0 (Below w.heap.size w wr)) (fun v5 _ => n - (intOf v5).toNat)
    case atStart => exact ⟨0, rfl, ⟨by omega⟩, ⟨fun j hj => absurd hj (Nat.not_lt_zero _)⟩, ⟨Below.refl _ _⟩⟩
    case round =>
      obtain ⟨x, rfl, hxr, hsf, hB⟩ := hrel
      by_cases hlt : x < n
      · have h0 : 0 ≤ x := hxr.out.1
        obtain ⟨ad, A4, c4, eA, x0, x1, x2, x3, x4, x5, x6, xl, xC⟩ := at_T27 (Kd.C_below HX.out hB.out) x h0 hlt
        obtain ⟨bd, B4, d4, eB, y0, y1, y2, y3, y4, y5, y6, yl, yC⟩ := at_T27 (Kd.C_below HY.out hB.out) x h0 hlt
        subst eA
        subst eB
        have hxr2 := Aside0.mk (show x = ((x.toNat : Nat) : Int) by omega)
        generalize hS : sameE (rd_T27 xs x) (rd_T27 ys x) = S at *
        have hSA := Aside0.mk hS
        clear hS
        go_upto_region 6 with (fail)
        simp only [List.append_eq, List.cons_append, List.nil_append]
        go_cut [81] (fun v81 wc => v81 = .bool (!S) ∧ Aside0 (Below w.heap.size w wc))
        case first =>
          have hS := hSA.out
          clear hSA hnA HX HY hsf hxr hxr2
          generalize rd_T27 xs x = X at *
          generalize rd_T27 ys x = Y at *
          obtain ⟨a0, ⟨a1, a2, a3⟩, a4, a5, a6⟩ := X
          obtain ⟨b0, ⟨b1, b2, b3⟩, b4, b5, b6⟩ := Y
          simp only at x0 x1 x2 x3 x4 x5 x6 y0 y1 y2 y3 y4 y5 y6 xl yl xC yC
          have qx := fun N => Kd.C_string (P := Tryz.prog) (c := c4) Tryz.underlying22 Tryz.underlying5 Tryz.underlying9 (Kd.C_below xC (belowN wr N))
          have qy := fun N => Kd.C_string (P := Tryz.prog) (c := d4) Tryz.underlying22 Tryz.underlying5 Tryz.underlying9 (Kd.C_below yC (belowN wr N))
          clear xC yC xl yl
          rcases sameE_cases a0 a1 a2 a3 a4 a5 a6 b0 b1 b2 b3 b4 b5 b6 with ⟨e0, hf⟩ | ⟨e0, e1, hf⟩ | ⟨e0, e1, e2, hf⟩ | ⟨e0, e1, e2, e3, hf⟩ | ⟨e0, e1, e2, e3, hf⟩
          all_goals
            generalize strOfNums a4 = sa at *
            generalize strOfNums b4 = sb at *
          · obtain rfl : S = false := hS.symm.trans hf
            have g0 : (a0 == b0) = false := beq_eq_false_iff_ne.mpr e0
            have g1 : (a0 != b0) = true := bne_iff_ne.mpr e0
            clear e0 hf hS
            go_quiet (fail)
            go_wp2_with (fail)
            go_meet
            case rel => exact ⟨rfl, ⟨hB.out.trans ((belowN wr nq).mono hB.out.size)⟩⟩
          · obtain rfl : S = false := hS.symm.trans hf
            subst e0
            have e1n : (!(a1 == b1) || (!(a2 == b2) || !(a3 == b3))) = true := by rw [← Bool.not_and, ← Bool.not_and, e1]; rfl
            have e1m : (!(a1 == b1 && (a2 == b2 && (a3 == b3)))) = true := by rw [e1]; rfl
            clear hf hS
            go_quiet (fail)
            go_wp2_with (fail)
            go_meet
            case rel => exact ⟨rfl, ⟨hB.out.trans ((belowN wr nq).mono hB.out.size)⟩⟩
          · obtain rfl : S = false := hS.symm.trans hf
            subst e0
            have e1n : (!(a1 == b1) || (!(a2 == b2) || !(a3 == b3))) = false := by rw [← Bool.not_and, ← Bool.not_and, e1]; rfl
            have e1m : (!(a1 == b1 && (a2 == b2 && (a3 == b3)))) = false := by rw [e1]; rfl
            have e2n : (sa.toList != sb.toList) = true := by rw [bne, e2]; rfl
            clear hf hS
            go_quiet (fail)
            go_wp2_with (fail)
            go_meet
            case rel => exact ⟨rfl, ⟨hB.out.trans ((belowN wr nq).mono hB.out.size)⟩⟩
          · obtain rfl : S = false := hS.symm.trans hf
            subst e0
            have e1n : (!(a1 == b1) || (!(a2 == b2) || !(a3 == b3))) = false := by rw [← Bool.not_and, ← Bool.not_and, e1]; rfl
            have e1m : (!(a1 == b1 && (a2 == b2 && (a3 == b3)))) = false := by rw [e1]; rfl
            have e2n : (sa.toList != sb.toList) = false := by rw [bne, e2]; rfl
            have g0 : (a5 == b5) = false := beq_eq_false_iff_ne.mpr e3
            have g1 : (a5 != b5) = true := bne_iff_ne.mpr e3
            clear e3 hf hS
            go_quiet (fail)
            go_wp2_with (fail)
            go_meet
            case rel => exact ⟨rfl, ⟨hB.out.trans ((belowN wr nq).mono hB.out.size)⟩⟩
          · obtain rfl : S = (a6 == b6) := hS.symm.trans hf
            subst e0
            have e1n : (!(a1 == b1) || (!(a2 == b2) || !(a3 == b3))) = false := by rw [← Bool.not_and, ← Bool.not_and, e1]; rfl
            have e1m : (!(a1 == b1 && (a2 == b2 && (a3 == b3)))) = false := by rw [e1]; rfl
            have e2n : (sa.toList != sb.toList) = false := by rw [bne, e2]; rfl
            subst e3
            clear hf hS
            cases a6
            all_goals
              cases b6
              all_goals
                go_quiet (fail)
                go_wp2_with (fail)
                go_meet
                case rel => exact ⟨rfl, ⟨hB.out.trans ((belowN wr nq).mono hB.out.size)⟩⟩
        case rest =>
          obtain ⟨rfl, hB5⟩ := hcut
          clear x0 x1 x2 x3 x4 x5 x6 y0 y1 y2 y3 y4 y5 y6 xC yC xl yl
          cases S
          · go_wp2_with (fail)
            go_ret
            exact ⟨by rw [sameL_not (j := x.toNat) (by rw [hnA.out.1]; omega) (by rw [← hxr2.out]; exact hSA.out)]; rfl, hB5.out⟩
          · have hw64 : wrap64 (x + 1) = x + 1 := by unfold wrap64; omega
            go_wp2_with (fail)
            go_roundw
            case rel =>
              refine ⟨x + 1, by go_num, ⟨by omega⟩, ⟨fun j hj => ?_⟩, hB5⟩
              by_cases hj2 : j < x.toNat
              · exact hsf.out j hj2
              · have : j = x.toNat := by omega
                subst this
                rw [← hxr2.out]
                exact hSA.out
            case measure => simp [intOf]; omega
      · have hxn : x = n := by have := hxr.out; omega
        subst hxn
        go_wp2_with (fail)
        go_ret
        exact ⟨by rw [sameL_yes (by rw [hnA.out.1, hnA.out.2]) (fun j hj => hsf.out j (by rw [hnA.out.1] at hj; omega))]; rfl, hB.out⟩
  · have hlI : ((xs.length : Int) != (ys.length : Int)) = true := by simp; omega
    have hno : sameL xs ys = false := by unfold sameL; rw [decide_eq_false hl]; rfl
    go_enter Tryz.func15, Tryz.ntmps15
    go_wp2_with (fail)
    go_ret
    exact ⟨by rw [hno]; rfl, Below.refl _ _⟩
end Go.Proofs.YtbiogabekhegaaaGreatDoor.Hand
