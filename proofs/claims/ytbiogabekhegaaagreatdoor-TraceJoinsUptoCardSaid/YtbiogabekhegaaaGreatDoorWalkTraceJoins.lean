/- Joined, they write what both write, and their texts join: the law's walk. -/
import Derived.Test.YtbiogabekhegaaaGreatDoorHandEffs07
import Derived.Test.YtbiogabekhegaaaGreatDoorHandAlive07
namespace Go.Proofs.YtbiogabekhegaaaGreatDoor.Hand
open Go.RowKit Go.Proofs.YtbiogabekhegaaaGreatDoorW.PrintWords Go.Proofs.YtbiogabekhegaaaGreatDoorW.PrintLast
open Go.Proofs.YtbiogabekhegaaaGreatDoor.PWritten (S27 S25 k27 z27 rd_T27 at_T27 k27_mk)
set_option linter.unusedVariables false
set_option linter.unusedSimpArgs false
theorem info27 : (Tryz.prog.info? 27).map (fun i => (i.zero, i.size, i.bytes)) = some (some (.agg #[.int .i64 0, .int .u32 0, .int .u8 0, .int .u8 0, .slice none 0 0, .int .i64 0, .bool false]), 7, 56) := by kernel_rfl
/-- Effects whose bytes are elder than w. -/
def kJ (w : World) : Kd S27 where
  sz := 7
  E := []
  K := fun _ p cs => ∀ W, Below w.heap.size w W → k27.K W p cs
  M := fun _ _ _ p cs => ∀ W, Below w.heap.size w W → k27.K W p cs
  K_len := fun h => k27.K_len (h w (Below.refl _ _))
  K_one := fun h => k27.K_one (h w (Below.refl _ _))
  K_below := fun _ h => h
  K_of_M := fun h => h
  M_mono := fun _ h => h
  M_bound := fun h => h
  M_move := fun _ h => h
  M_lower := fun _ h => h
theorem kJ_reads {w W : World} {A : Option Addr} {n : Nat} {L : List S27} (h : Kd.C k27 w A n L) (hb : Below w.heap.size w W) : ReadsRow ((kJ w).K W) 7 W A n L :=
  ReadsRow.imp_ h hb (fun _ _ hp => fun _ hW => k27.K_below hW hp)
theorem kJ_C {w wr : World} {b : Nat} {ok : Nat → Prop} {v : Value} {L : List S27} (h : Kd.R (kJ w) 27 wr b ok v L) (hb : Below w.heap.size w wr) : ∃ A c, v = .slice A L.length c ∧ L.length ≤ c ∧ Kd.C k27 wr A L.length L := by
  obtain ⟨A, c, e, hl, hr⟩ := OwnRow.reads h.2
  exact ⟨A, c, e, hl, hr.imp_ (Below.refl _ _) (fun p cs hp => hp _ hb)⟩
theorem wrL_app (a b : List S27) : wrL (a ++ b) = wrL a ++ wrL b := by unfold wrL; rw [List.map_append, List.flatten_append]
theorem wrL_le (es : List S27) : (wrL es).length ≤ greatN es := by
  induction es with
  | nil => simp [wrL]
  | cons e r ih =>
    have h2 : (wrE e).length ≤ e.f2.length := by
      unfold wrE
      split
      · rw [List.length_take]; omega
      · exact Nat.zero_le _
    have h3 : wrL (e :: r) = wrE e ++ wrL r := rfl
    have h4 : greatN (e :: r) = 1 + e.f2.length + greatN r := rfl
    rw [h3, List.length_append, h4]
    omega
theorem wrL_takes (es : List S27) (n : Nat) (h : greatN es ≤ n) (j : Nat) : (wrL (es.take j)).length ≤ n := Nat.le_trans (wrL_le _) (Nat.le_trans (greatN_take es j) h)
theorem str_app (a b : List Int) : strOfNums (a ++ b) = strOfNums a ++ strOfNums b := by
  unfold strOfNums
  rw [List.map_append]
  apply ByteArray.ext
  simp
theorem run_build0 (w : World) : (Instr.buildSlice 29 0 #[]).run Tryz.prog w = .ok (.slice (some ⟨w.heap.size, 0, none⟩) 0 0) (w.alloc (.cells #[] 27)) := by
  obtain ⟨i0, hi, hzz⟩ := Option.map_eq_some_iff.1 info27
  simp only [Prod.mk.injEq] at hzz
  obtain ⟨hz0, hz1, hz2⟩ := hzz
  simp [Instr.buildSlice, run_underlying Tryz.underlying29, sizeOf, typeInfo, zeroValue, hi, hz0, Instr.fill, newRow]
  rw [Array.eq_empty_of_size_eq_zero (xs := Array.map _ (Array.range 0)) (by simp)]
section
variable {ops : Array Oper} {rest : List Oper} {o : Oper} {a : Act} {Q : Exit → Act → World → Prop}
theorem wpList_build0 {w : World} (hg : o.guard = none) (ho : o.op = .buildSlice 29 0 #[])
    (h : wpList Tryz.prog ops Q rest (a.put o.dst (.slice (some ⟨w.heap.size, 0, none⟩) 0 0)) (w.alloc (.cells #[] 27))) : wpList Tryz.prog ops Q (o :: rest) a w :=
  wpList_plain hg fun K hK => by
    unfold Oper.wp execOp
    simp only [ho, Sem.run_bind, Array.map_empty, run_build0, Result.andThen_ok]
    exact hK _ _ h
end
set_option maxHeartbeats 8000000 in
set_option maxRecDepth 100000 in
theorem TraceJoins_walk (a0 : Option Addr) (c0 : Nat) (L0 : List S27) (a1 : Option Addr) (c1 : Nat) (L1 : List S27) (w : World) (HT : TabA w)
    (w0 : L0.length ≤ c0) (y0 : Kd.C k27 w a0 L0.length L0) (x0 : ∀ E ∈ L0, EffWf E) (g0 : greatN L0 ≤ 1048576)
    (w1 : L1.length ≤ c1) (y1 : Kd.C k27 w a1 L1.length L1) (x1 : ∀ E ∈ L1, EffWf E) (g1 : greatN L1 ≤ 1048576) :
    Calls Tryz.prog 5 #[.slice a0 L0.length c0, .slice a1 L1.length c1] w fun e w' => e = .returned (.bool true) ∧ Below w.heap.size w w' := by
  have hT := Aside0.mk HT
  have hX := Aside0.mk (And.intro x0 x1)
  have hC := Aside0.mk (And.intro y0 y1)
  have hG := Aside0.mk (And.intro g0 g1)
  have HA := alive_ok w HT
  clear HT y0 y1 x0 x1
  go_enter Tryz.func5, Tryz.ntmps5
  go_wp2_with (fail)
  refine HA.mono ?_
  rintro e w2 ⟨rfl, hb2⟩
  have HG0 := great_ok L0 a0 c0 w2 (Kd.C_below hC.out.1 hb2) (by have := hG.out.1; omega)
  have hB2 := Aside0.mk hb2
  clear HA hb2
  by_cases hg0 : 1500 < greatN L0
  · rw [decide_eq_true hg0] at HG0
    have HA3 := fun w3 hb => alive_ok w3 (hT.out.below hb)
    clear hg0
    go_wp2_with (fail)
    refine HG0.mono ?_
    rintro e w3 ⟨rfl, hb3⟩
    have hB3 := Aside0.mk (hB2.out.trans (hb3.mono hB2.out.size))
    clear HG0 hb3 hB2
    go_wp2_with (fail)
    refine (HA3 _ hB3.out).mono ?_
    rintro e w4 ⟨rfl, hb4⟩
    go_wp2_with (fail)
    go_ret
    exact ⟨rfl, hB3.out.trans (hb4.mono hB3.out.size)⟩
  · rw [decide_eq_false hg0] at HG0
    have HG1 := fun w3 hb => great_ok L1 a1 c1 w3 (Kd.C_below hC.out.2 hb) (by have := hG.out.2; omega)
    have hgA := Aside0.mk (Nat.le_of_not_lt hg0)
    clear hg0
    go_wp2_with (fail)
    refine HG0.mono ?_
    rintro e w3 ⟨rfl, hb3⟩
    have hB3 := Aside0.mk (hB2.out.trans (hb3.mono hB2.out.size))
    clear HG0 hb3 hB2
    have HG2 := HG1 w3 hB3.out
    clear HG1
    by_cases hg1 : 1500 < greatN L1
    · rw [decide_eq_true hg1] at HG2
      have HA3 := fun w3 hb => alive_ok w3 (hT.out.below hb)
      clear hg1
      go_wp2_with (fail)
      refine HG2.mono ?_
      rintro e w4 ⟨rfl, hb4⟩
      have hB4 := Aside0.mk (hB3.out.trans (hb4.mono hB3.out.size))
      clear HG2 hb4 hB3
      go_wp2_with (fail)
      refine (HA3 _ hB4.out).mono ?_
      rintro e w5 ⟨rfl, hb5⟩
      go_wp2_with (fail)
      go_ret
      exact ⟨rfl, hB4.out.trans (hb5.mono hB4.out.size)⟩
    · rw [decide_eq_false hg1] at HG2
      have hgB := Aside0.mk (Nat.le_of_not_lt hg1)
      clear hg1
      go_wp2_with (fail)
      refine HG2.mono ?_
      rintro e w4 ⟨rfl, hb4⟩
      have hB4 := Aside0.mk (hB3.out.trans (hb4.mono hB3.out.size))
      clear HG2 hb4 hB3
      have hl0 : L0.length ≤ 1500 := Nat.le_trans (greatN_len L0) hgA.out
      have hl1 : L1.length ≤ 1500 := Nat.le_trans (greatN_len L1) hgB.out
      have hR0 : Kd.R (kJ w) 27 (w4.alloc (.cells #[] 27)) w.heap.size (fun _ => True) (.slice (some ⟨w4.heap.size, 0, none⟩) 0 0) [] := ⟨fun _ _ => trivial, OwnRow.lit w4 w.heap.size (Reps.none _ _) hB4.out.size (Nat.zero_le _)⟩
      have hB5 := Aside0.mk (hB4.out.alloc hB4.out.size (.cells #[] 27))
      have hRA := Aside0.mk hR0
      have hSA := Aside0.mk (kJ_reads hC.out.1 hB5.out)
      clear hR0
      go_wp2_with (refine gate_ (.buildSlice 29 0 #[]) rfl ?roundEnd)
      refine wpList_build0 rfl rfl ?next
      go_wp2_with (first
        | ((with_reducible refine gate_builtin (b := .append) (xs := #[.tmp 23, .tmp 24]) rfl ?_); at_builtin; refine Kd.R_append_rows (kJ w) (w0 := w) w.heap.size rfl (.tmp 23) (.tmp 24) 29 27 _ 56 rfl Tryz.underlying29 info27 rfl (show 0 < 7 by decide) (by decide) _ [] L0 _ _ _ (fun _ => True) (fun _ => False) rfl rfl hRA.out hSA.out (fun _ _ h => h) (fun _ h => h.elim) (fun _ _ => trivial) hB5.out hB5.out.size (by simp; omega) ?_; intro v5 w5 ho5 hb5 hg5 hat5; have hSB := kJ_reads hC.out.2 hb5)
        | ((with_reducible refine gate_builtin (b := .append) (xs := #[.tmp 25, .tmp 26]) rfl ?_); at_builtin; refine Kd.R_append_rows (kJ w) (w0 := w) w.heap.size rfl (.tmp 25) (.tmp 26) 29 27 _ 56 rfl Tryz.underlying29 info27 rfl (show 0 < 7 by decide) (by decide) _ ([] ++ L0) L1 _ _ _ (fun _ => True) (fun _ => False) rfl rfl ho5 hSB (fun _ _ h => h) (fun _ h => h.elim) (fun _ _ => trivial) hb5 hb5.size (by simp; omega) ?_; intro v6 w6 ho6 hb6 hg6 hat6))
      rw [List.nil_append] at ho6
      obtain ⟨A9, c9, rfl, hc9, hC9⟩ := kJ_C ho6 hb6
      have hE9 : (L0 ++ L1).length ≤ 3000 := by rw [List.length_append]; omega
      have hg9 : greatN (L0 ++ L1) ≤ 3000 := by rw [greatN_app]; have := hgA.out; have := hgB.out; omega
      have hXA : ∀ E ∈ L0, EffWr E := fun E he => (hX.out.1 E he).wr (Nat.le_trans (greatN_mem he) (by have := hgA.out; omega))
      have hXB : ∀ E ∈ L1, EffWr E := fun E he => (hX.out.2 E he).wr (Nat.le_trans (greatN_mem he) (by have := hgB.out; omega))
      have hXC : ∀ E ∈ L0 ++ L1, EffWr E := fun E he => (List.mem_append.1 he).elim (hXA E) (hXB E)
      have HWa := fun W (h : Kd.C k27 W A9 (L0 ++ L1).length (L0 ++ L1)) => written_ok (L0 ++ L1) A9 c9 W h (wrL_takes _ _ (by omega)) (fun e he _ => Nat.le_trans (greatN_mem he) (by omega))
      have HW0 := fun W (h : Kd.C k27 W a0 L0.length L0) => written_ok L0 a0 c0 W h (wrL_takes _ _ (by have := hgA.out; omega)) (fun e he _ => Nat.le_trans (greatN_mem he) (by have := hgA.out; omega))
      have HW1 := fun W (h : Kd.C k27 W a1 L1.length L1) => written_ok L1 a1 c1 W h (wrL_takes _ _ (by have := hgB.out; omega)) (fun e he _ => Nat.le_trans (greatN_mem he) (by have := hgB.out; omega))
      rw [wrL_app] at HWa
      have hs0 : (wrL L0).length ≤ 1500 := Nat.le_trans (wrL_le _) hgA.out
      have hs1 : (wrL L1).length ≤ 1500 := Nat.le_trans (wrL_le _) hgB.out
      have HF0 := fun W (ht : TabA W) (h : Kd.C k27 W a0 L0.length L0) => format_ok L0 a0 c0 W ht h hXA (by omega)
      have HF1 := fun W (ht : TabA W) (h : Kd.C k27 W a1 L1.length L1) => format_ok L1 a1 c1 W ht h hXB (by omega)
      have HF9 := fun W (ht : TabA W) (h : Kd.C k27 W A9 (L0 ++ L1).length (L0 ++ L1)) => format_ok (L0 ++ L1) A9 c9 W ht h hXC (by omega)
      have hz0 := fmtR_size L0 hXA
      have hz1 := fmtR_size L1 hXB
      have hcat : fmtR (L0 ++ L1) = if fmtBad L0 = 0 then (if fmtBad L1 = 0 then ((fmtR L0).1 ++ (fmtR L1).1, 0) else (⟨#[]⟩, fmtBad L1)) else (⟨#[]⟩, fmtBad L0) := by
        unfold fmtR
        rw [fmtBad_app, fmtL_app]
        by_cases h0 : fmtBad L0 = 0
        · rw [if_pos h0, if_pos h0, if_pos h0]
          by_cases h1 : fmtBad L1 = 0
          · rw [if_pos h1, if_pos h1, if_pos h1]
            congr 1
          · rw [if_neg h1, if_neg h1]
        · rw [if_neg h0, if_neg h0, if_neg h0]
      have hq0 : fmtBad L0 = 0 → (fmtR L0).2 = 0 := fun h => by unfold fmtR; rw [if_pos h]
      have hq1 : fmtBad L1 = 0 → (fmtR L1).2 = 0 := fun h => by unfold fmtR; rw [if_pos h]
      have hn0 : fmtBad L0 ≠ 0 → fmtR L0 = (⟨#[]⟩, fmtBad L0) := fun h => by unfold fmtR; rw [if_neg h]
      have hn1 : fmtBad L1 ≠ 0 → fmtR L1 = (⟨#[]⟩, fmtBad L1) := fun h => by unfold fmtR; rw [if_neg h]
      have hS := Aside0.mk (And.intro hcat (And.intro hq0 (And.intro hq1 (And.intro hn0 hn1))))
      have hsz : Aside0 ((fmtR L0).1.size + (fmtR L1).1.size ≤ 9223372036854775807) := ⟨by omega⟩
      have hC9A := Aside0.mk hC9
      have hB6 := Aside0.mk hb6
      have hF := Aside0.mk (And.intro HF0 (And.intro HF1 HF9))
      clear hcat hq0 hq1 hn0 hn1 hXA hXB hXC hz0 hz1 HF0 HF1 HF9 hX hgA hgB hG hg9 ho6 hg6 hat6 hb5 ho5 hg5 hat5 hSB hRA hSA hB5 hB4 hb6 hC9 hc9
      generalize (L0 ++ L1).length = N9 at *
      generalize (L0 ++ L1) = ES at *
      generalize wrL L0 = X0 at *
      generalize wrL L1 = X1 at *
      have hC7 := Kd.C_below hC9A.out (below_drew1 (Below.refl _ w6))
      have hcc : ((strOfNums X0).size + (strOfNums X1).size) ≤ 9223372036854775807 := by rw [strOfNums_size, strOfNums_size]; omega
      have happ := Aside0.mk (str_app X0 X1)
      generalize X0 ++ X1 = X9 at *
      go_cut [38] (fun v38 wc => v38 = .bool false ∧ Aside0 (Below w6.heap.size w6 wc))
      case first =>
        have hD : Below w6.heap.size w6 w6.drew := below_drew1 (Below.refl _ _)
        have hDw : Below w.heap.size w w6.drew := hB6.out.trans (hD.mono hB6.out.size)
        have HWaA := Aside0.mk (HWa _ hC7)
        have HWA := Aside0.mk (And.intro HW0 HW1)
        have hDA := Aside0.mk (And.intro hD hDw)
        clear HWa HW0 HW1 hD hDw
        go_region_with (first
          | (have hgo := hC81; go_at_call 9; clear hgo; refine (HWA.out.2 _ hC81).mono ?_; rintro e wA ⟨vA, rfl, hRA, hbA⟩; obtain ⟨AA, cA, rfl⟩ := Kd.R_slice hRA; have qAA := Kd.C_string (P := Tryz.prog) (c := cA) Tryz.underlying22 Tryz.underlying5 Tryz.underlying9 (Kd.R_reads' hRA).2.2; have qA8 := Kd.C_string (P := Tryz.prog) (c := c8) Tryz.underlying22 Tryz.underlying5 Tryz.underlying9 (Kd.C_below (Kd.R_reads' hR8).2.2 hbA); have qA7 := Kd.C_string (P := Tryz.prog) (c := c7) Tryz.underlying22 Tryz.underlying5 Tryz.underlying9 (Kd.C_below (Kd.C_below (Kd.R_reads' hR7).2.2 hb8) hbA); rw [happ.out] at qA7)
          | (have hgo := hC70; go_at_call 9; clear hgo; refine (HWA.out.1 _ hC70).mono ?_; rintro e w8 ⟨v8, rfl, hR8, hb8⟩; obtain ⟨A8, c8, rfl⟩ := Kd.R_slice hR8; have q88 := Kd.C_string (P := Tryz.prog) (c := c8) Tryz.underlying22 Tryz.underlying5 Tryz.underlying9 (Kd.R_reads' hR8).2.2; have q87 := Kd.C_string (P := Tryz.prog) (c := c7) Tryz.underlying22 Tryz.underlying5 Tryz.underlying9 (Kd.C_below (Kd.R_reads' hR7).2.2 hb8); rw [happ.out] at q87; have hC81 := Kd.C_below hC71 hb8)
          | (go_at_call 9; refine HWaA.out.mono ?_; rintro e w7 ⟨v7, rfl, hR7, hb7⟩; obtain ⟨A7, c7, rfl⟩ := Kd.R_slice hR7; have q77 := Kd.C_string (P := Tryz.prog) (c := c7) Tryz.underlying22 Tryz.underlying5 Tryz.underlying9 (Kd.R_reads' hR7).2.2; rw [happ.out] at q77; have hC70 := Kd.C_below hC.out.1 (hDA.out.2.trans (hb7.mono hDA.out.2.size)); have hC71 := Kd.C_below hC.out.2 (hDA.out.2.trans (hb7.mono hDA.out.2.size))))
        all_goals
          go_wp2_with (fail)
          go_meet
          case rel => exact ⟨rfl, ⟨hDA.out.1.trans ((hb7.trans ((hb8.trans (hbA.mono hb8.size)).mono hb7.size)).mono hDA.out.1.size)⟩⟩
      case rest =>
        obtain ⟨rfl, hbc⟩ := hcut
        have hBc := Aside0.mk (hB6.out.trans (hbc.out.mono hB6.out.size))
        have hCc := Aside0.mk (Kd.C_below hC9A.out hbc.out)
        have HF0 := hF.out.1 wc (hT.out.below hBc.out) (Kd.C_below hC.out.1 hBc.out)
        have HF1 := fun W (hb : Below wc.heap.size wc W) => hF.out.2.1 W (hT.out.below (hBc.out.trans (hb.mono hBc.out.size))) (Kd.C_below hC.out.2 (hBc.out.trans (hb.mono hBc.out.size)))
        have HF9 := fun W (hb : Below wc.heap.size wc W) => hF.out.2.2 W (hT.out.below (hBc.out.trans (hb.mono hBc.out.size))) (Kd.C_below hCc.out hb)
        obtain ⟨hcat, hq0, hq1, hn0, hn1⟩ := hS.out
        clear hF hS HWa HW0 HW1 hcc happ hC7 hT hC hB6 hbc hCc hC9A
        generalize fmtR ES = R9 at *
        by_cases h0 : fmtBad L0 = 0
        · rw [if_pos h0] at hcat
          have hr0 := hq0 h0
          clear hq0 hn0 h0
          generalize fmtR L0 = R0 at *
          obtain ⟨s0, e0⟩ := R0
          obtain rfl : e0 = 0 := hr0
          by_cases h1 : fmtBad L1 = 0
          · rw [if_pos h1] at hcat
            have hr1 := hq1 h1
            clear hq1 hn1 h1
            generalize fmtR L1 = R1 at *
            obtain ⟨s1, e1⟩ := R1
            obtain rfl : e1 = 0 := hr1
            subst hcat
            have hsz1 : s0.size + s1.size ≤ 9223372036854775807 := hsz.out
            clear hsz
            go_wp2_with (fail)
            refine HF0.mono ?_
            rintro e wd ⟨rfl, hbd⟩
            go_wp2_with (fail)
            refine (HF1 wd hbd).mono ?_
            rintro e we ⟨rfl, hbe⟩
            have hBe := Aside0.mk (hbd.trans (hbe.mono hbd.size))
            clear hbd hbe
            go_wp2_with (fail)
            refine (HF9 we hBe.out).mono ?_
            rintro e wf ⟨rfl, hbf⟩
            have hBf := Aside0.mk (hBc.out.trans ((hBe.out.trans (hbf.mono hBe.out.size)).mono hBc.out.size))
            clear hbf hBe
            go_wp2_with (fail)
            go_ret
            exact ⟨rfl, hBf.out⟩
          · rw [if_neg h1] at hcat
            have hr1 := hn1 h1
            clear hq1 hn1
            rw [hr1] at HF1
            generalize fmtBad L1 = b1 at *
            have hbz : (b1 != 0) = true := bne_iff_ne.mpr h1
            subst hcat
            clear hsz h1
            go_wp2_with (fail)
            refine HF0.mono ?_
            rintro e wd ⟨rfl, hbd⟩
            go_wp2_with (fail)
            refine (HF1 wd hbd).mono ?_
            rintro e we ⟨rfl, hbe⟩
            have hBe := Aside0.mk (hbd.trans (hbe.mono hbd.size))
            clear hbd hbe
            go_wp2_with (fail)
            refine (HF9 we hBe.out).mono ?_
            rintro e wf ⟨rfl, hbf⟩
            have hBf := Aside0.mk (hBc.out.trans ((hBe.out.trans (hbf.mono hBe.out.size)).mono hBc.out.size))
            clear hbf hBe
            go_wp2_with (fail)
            go_ret
            exact ⟨rfl, hBf.out⟩
        · rw [if_neg h0] at hcat
          have hr0 := hn0 h0
          clear hq0 hn0 hq1 hn1 hsz
          rw [hr0] at HF0
          generalize fmtBad L0 = b0 at *
          have hbz : (b0 != 0) = true := bne_iff_ne.mpr h0
          generalize fmtR L1 = R1 at *
          obtain ⟨s1, e1⟩ := R1
          subst hcat
          clear h0
          go_wp2_with (fail)
          refine HF0.mono ?_
          rintro e wd ⟨rfl, hbd⟩
          go_wp2_with (fail)
          refine (HF1 wd hbd).mono ?_
          rintro e we ⟨rfl, hbe⟩
          have hBe := Aside0.mk (hbd.trans (hbe.mono hbd.size))
          clear hbd hbe
          go_wp2_with (fail)
          refine (HF9 we hBe.out).mono ?_
          rintro e wf ⟨rfl, hbf⟩
          have hBf := Aside0.mk (hBc.out.trans ((hBe.out.trans (hbf.mono hBe.out.size)).mono hBc.out.size))
          clear hbf hBe
          go_wp2_with (fail)
          go_ret
          exact ⟨rfl, hBf.out⟩
end Go.Proofs.YtbiogabekhegaaaGreatDoor.Hand
