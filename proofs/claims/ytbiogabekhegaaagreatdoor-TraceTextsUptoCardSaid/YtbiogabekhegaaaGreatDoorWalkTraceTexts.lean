/- TraceTexts walked. -/
import Derived.Test.YtbiogabekhegaaaGreatDoorHandTxtR07
import Derived.Test.YtbiogabekhegaaaGreatDoorPlainWr07
import Derived.Test.YtbiogabekhegaaaGreatDoorHandSamR07
import Derived.Test.YtbiogabekhegaaaGreatDoorPlainBack07
namespace Go.Proofs.YtbiogabekhegaaaGreatDoor.Hand
open Go.RowKit Go.Proofs.YtbiogabekhegaaaGreatDoorW.PrintWords Go.Proofs.YtbiogabekhegaaaGreatDoorW.PrintLast
open Go.Proofs.YtbiogabekhegaaaGreatDoor.PWritten (S27 S25 k27 z27 rd_T27 at_T27 k27_mk)
set_option linter.unusedVariables false
set_option linter.unusedSimpArgs false
theorem sameL_refl (xs : List S27) : sameL xs xs = true := sameL_yes rfl (fun j _ => same_refl _)
theorem wrL_len_le (L : List S27) : (wrL L).length ≤ greatN L := by
  induction L with
  | nil => exact Nat.le_refl _
  | cons x r ih =>
    have h1 : (wrE x).length ≤ x.f2.length := by
      unfold wrE
      split
      · rw [List.length_take]; omega
      · exact Nat.zero_le _
    show (wrE x ++ wrL r).length ≤ (1 + x.f2.length) + greatN r
    rw [List.length_append]
    omega
theorem wrL_take_le (L : List S27) (M : Nat) (h : greatN L ≤ M) (j : Nat) : (wrL (L.take j)).length ≤ M := Nat.le_trans (wrL_len_le _) (Nat.le_trans (greatN_take L j) h)
set_option maxHeartbeats 8000000 in
set_option maxRecDepth 100000 in
theorem TraceTexts_walk (a0 : Option Addr) (c0 : Nat) (L0 : List S27) (a1 : Option Addr) (c1 : Nat) (L1 : List S27) (s : ByteArray) (w : World) (HT : TabA w)
    (w0 : L0.length ≤ c0) (y0 : Kd.C k27 w a0 L0.length L0) (x0 : ∀ E ∈ L0, EffWf E) (g0 : greatN L0 ≤ 1048576)
    (w1 : L1.length ≤ c1) (y1 : Kd.C k27 w a1 L1.length L1) (x1 : ∀ E ∈ L1, EffWf E) (g1 : greatN L1 ≤ 1048576) (w2 : s.size ≤ 140737488351232) :
    Calls Tryz.prog 7 #[.slice a0 L0.length c0, .slice a1 L1.length c1, .string s] w fun e w' => e = .returned (.bool true) ∧ Below w.heap.size w w' := by
  have hT := Aside0.mk HT
  have hX := Aside0.mk (And.intro x0 x1)
  have hC := Aside0.mk (And.intro y0 y1)
  have hG := Aside0.mk (And.intro g0 g1)
  have hcA := Aside0.mk (And.intro w0 w1)
  have HA := alive_ok w HT
  clear HT y0 y1 x0 x1 w0 w1
  go_enter Tryz.func7, Tryz.ntmps7
  go_wp2_with (fail)
  refine HA.mono ?_
  rintro e w2' ⟨rfl, hb2⟩
  have HG0 := great_ok L0 a0 c0 w2' (Kd.C_below hC.out.1 hb2) (by have := hG.out; omega)
  have hB2 := Aside0.mk hb2
  have HA3 := fun w3 hb => alive_ok w3 (hT.out.below hb)
  clear HA hb2
  by_cases hg0 : 1500 < greatN L0
  · rw [decide_eq_true hg0] at HG0
    clear hg0
    go_wp2_with (fail)
    refine HG0.mono ?_
    rintro e w3 ⟨rfl, hb3⟩
    have hB3 := Aside0.mk (hB2.out.trans (hb3.mono hB2.out.size))
    clear HG0 hb3 hB2
    go_wp2_with (fail)
    refine (HA3 _ hB3.out).mono ?_
    rintro e w4 ⟨rfl, hb4⟩
    go_wp2_with (fail)
    go_ret
    exact ⟨rfl, hB3.out.trans (hb4.mono hB3.out.size)⟩
  · rw [decide_eq_false hg0] at HG0
    have HG1 := fun w3 hb => great_ok L1 a1 c1 w3 (Kd.C_below hC.out.2 hb) (by have := hG.out.2; omega)
    have hgA := Aside0.mk (Nat.le_of_not_lt hg0)
    clear hg0
    go_wp2_with (fail)
    refine HG0.mono ?_
    rintro e w3 ⟨rfl, hb3⟩
    have hB3 := Aside0.mk (hB2.out.trans (hb3.mono hB2.out.size))
    clear HG0 hb3 hB2
    have HG2 := HG1 w3 hB3.out
    clear HG1
    by_cases hg1 : 1500 < greatN L1
    · rw [decide_eq_true hg1] at HG2
      clear hg1
      go_wp2_with (fail)
      refine HG2.mono ?_
      rintro e w4 ⟨rfl, hb4⟩
      have hB4 := Aside0.mk (hB3.out.trans (hb4.mono hB3.out.size))
      clear HG2 hb4 hB3
      go_wp2_with (fail)
      refine (HA3 _ hB4.out).mono ?_
      rintro e w5 ⟨rfl, hb5⟩
      go_wp2_with (fail)
      go_ret
      exact ⟨rfl, hB4.out.trans (hb5.mono hB4.out.size)⟩
    · rw [decide_eq_false hg1] at HG2
      have hgB := Aside0.mk (Nat.le_of_not_lt hg1)
      clear hg1
      by_cases hs2 : (2000 : Int) < (s.size : Int)
      · go_wp2_with (fail)
        refine HG2.mono ?_
        rintro e w4 ⟨rfl, hb4⟩
        have hB4 := Aside0.mk (hB3.out.trans (hb4.mono hB3.out.size))
        clear HG2 hb4 hB3
        go_wp2_with (fail)
        refine (HA3 _ hB4.out).mono ?_
        rintro e w5 ⟨rfl, hb5⟩
        go_wp2_with (fail)
        go_ret
        exact ⟨rfl, hB4.out.trans (hb5.mono hB4.out.size)⟩
      · have hsA : Aside0 (s.size ≤ 2000) := ⟨by omega⟩
        clear HA3
        go_wp2_with (fail)
        refine HG2.mono ?_
        rintro e w4 ⟨rfl, hb4⟩
        have hB4 := Aside0.mk (hB3.out.trans (hb4.mono hB3.out.size))
        clear HG2 hb4 hB3
        have hl0 : L0.length ≤ 1500 := Nat.le_trans (greatN_len L0) hgA.out
        have hXA := Aside0.mk (fun E (he : E ∈ L0) => (hX.out.1 E he).wr (Nat.le_trans (greatN_mem he) (by have := hgA.out; omega)))
        have hpz := Aside0.mk (fun p (hp : p ∈ splitB 10 s.data.toList) => show p.length ≤ 30000 by
          have h := pieces_size 10 s (ba p) (List.mem_map_of_mem hp)
          rw [ba_size] at h
          have := hsA.out
          omega)
        go_wp2_with (fail)
        refine (format_ok L0 a0 c0 w4 (hT.out.below hB4.out) (Kd.C_below hC.out.1 hB4.out) hXA.out (by omega)).mono ?_
        rintro e w5 ⟨rfl, hb5⟩
        have hB5 := Aside0.mk (hB4.out.trans (hb5.mono hB4.out.size))
        have HF := Aside0.mk (fun W (hb : Below w.heap.size w W) => refFormat_ok L0 a0 c0 W (Kd.C_below hC.out.1 hb) hXA.out (by omega))
        clear hb5 hB4
        generalize fmtR L0 = FR at *
        go_wp2_with (fail)
        refine (HF.out _ hB5.out).mono ?_
        rintro e w6 ⟨rfl, hb6⟩
        have hB6 := Aside0.mk (hB5.out.trans (hb6.mono hB5.out.size))
        clear hb6 hB5 HF
        go_wp2_with (fail)
        refine (parse7_ok s (by have := hsA.out; omega) hpz.out w6 (hT.out.below hB6.out)).mono ?_
        rintro e w7 ⟨v7, rfl, hR7, hb7⟩
        have HP := Aside0.mk (refParse_ok s hsA.out)
        generalize prsL (splitB 10 s.data.toList) [] = RES at *
        obtain ⟨MM, nn, er⟩ := RES
        simp only at hR7 HP
        obtain ⟨A7, c7, rfl⟩ := Kd.R_slice hR7
        have hB7 := Aside0.mk (hB6.out.trans (hb7.mono hB6.out.size))
        have hC7 := Aside0.mk (Kd.R_reads' hR7).2.2
        clear hb7 hB6 hR7 hpz
        go_wp2_with (fail)
        refine (HP.out _).mono ?_
        rintro e w8 ⟨v8, rfl, hR8, hb8⟩
        obtain ⟨A8, c8, rfl⟩ := Kd.R_slice hR8
        have hB8 := Aside0.mk (hB7.out.trans (hb8.mono hB7.out.size))
        have hC78 := Aside0.mk (And.intro (Kd.C_below hC7.out hb8) (Kd.R_reads' hR8).2.2)
        clear hb8 hB7 hR8 hC7 HP
        obtain ⟨FS, FE⟩ := FR
        simp only
        go_upto_region 7 with (fail)
        have hD : Below w8.heap.size w8 w8.drew := below_drew1 (Below.refl _ _)
        have HS0 := refSame_ok MM MM A7 A8 c7 c8 w8.drew (Kd.C_below hC78.out.1 hD) (Kd.C_below hC78.out.2 hD)
        rw [sameL_refl] at HS0
        have HS1 := fun W (hb : Below w.heap.size w W) => traceSame_ok L0 L1 a0 a1 c0 c1 W (Kd.C_below hC.out.1 hb) (Kd.C_below hC.out.2 hb)
        have HS2 := fun W (hb : Below w.heap.size w W) => refSame_ok L0 L1 a0 a1 c0 c1 W (Kd.C_below hC.out.1 hb) (Kd.C_below hC.out.2 hb)
        have HS3 := fun W (hb : Below w.heap.size w W) => traceSame_ok L0 L0 a0 a0 c0 c0 W (Kd.C_below hC.out.1 hb) (Kd.C_below hC.out.1 hb)
        rw [sameL_refl] at HS3
        have HW1 := fun W (hb : Below w.heap.size w W) => written_ok L0 a0 c0 W (Kd.C_below hC.out.1 hb) (wrL_take_le _ _ (by have := hgA.out; omega)) (fun e he _ => Nat.le_trans (greatN_mem he) (by have := hgA.out; omega))
        have HW2 := fun W (hb : Below w.heap.size w W) => refWritten_ok L0 a0 c0 W (Kd.C_below hC.out.1 hb) hcA.out.1 (by omega) (Nat.le_trans (wrL_len_le _) (by have := hgA.out; omega))
        generalize wrL L0 = X0 at *
        obtain ⟨ST, hST⟩ : ∃ ST, strOfNums X0 = ST := ⟨_, rfl⟩
        have hstA := Aside0.mk hST
        clear hST
        generalize sameL L0 L1 = SS at *
        have hHH := Aside0.mk (And.intro HS0 (And.intro HS1 (And.intro HS2 (And.intro HS3 (And.intro HW1 HW2)))))
        have hBd := Aside0.mk (hB8.out.trans (hD.mono hB8.out.size))
        clear HS0 HS1 HS2 HS3 HW1 HW2 hD hC78 hXA hX hgA hgB hG hT hC hcA hsA hl0
        have e1 : (FS.toList == FS.toList) = true := by simp
        have e2 : (FE == FE) = true := by simp
        have e3 : ((nn : Int) == (nn : Int)) = true := by simp
        have e4 : (er == er) = true := by simp
        have e5 : (SS == SS) = true := by simp
        have e6 : decide (SS = SS) = true := by simp
        refine wp_region_any (by kernel_rfl) ?_
        try (change wpAny _ _ _ _ _ _ _ (World.drew _))
        refine wpAny_take (i := 0) (v := ?_) rfl (by kernel_rfl) (by kernel_rfl) (by kernel_rfl) (fun _ _ _ h => h) (Or.inl ⟨by rfl, ?_⟩) ?_
        rotate_left
        · (intro w; go_simp; try (with_reducible rfl))
        try simp only [Act.put, List.getElem_toArray, List.getElem_cons_zero, List.getElem_cons_succ, List.setIfInBounds_toArray, List.set_cons_zero, List.set_cons_succ]
        refine wpAny_take (i := 1) (v := ?_) rfl (by kernel_rfl) (by kernel_rfl) (by kernel_rfl) (fun _ _ _ h => h) (Or.inl ⟨by rfl, ?_⟩) ?_
        rotate_left
        · (intro w; go_simp; try (with_reducible rfl))
        try simp only [Act.put, List.getElem_toArray, List.getElem_cons_zero, List.getElem_cons_succ, List.setIfInBounds_toArray, List.set_cons_zero, List.set_cons_succ]
        refine wpAny_take (i := 2) (v := ?_) rfl (by kernel_rfl) (by kernel_rfl) (by kernel_rfl) (fun _ _ _ h => h) (Or.inl ⟨by rfl, ?_⟩) ?_
        rotate_left
        · (intro w; go_simp; try (with_reducible rfl))
        try simp only [Act.put, List.getElem_toArray, List.getElem_cons_zero, List.getElem_cons_succ, List.setIfInBounds_toArray, List.set_cons_zero, List.set_cons_succ]
        refine wpAny_take (i := 3) (v := ?_) rfl (by kernel_rfl) (by kernel_rfl) (by kernel_rfl) (fun _ _ _ h => h) (Or.inl ⟨by rfl, ?_⟩) ?_
        rotate_left
        · (intro w; go_simp; try (with_reducible rfl))
        try simp only [Act.put, List.getElem_toArray, List.getElem_cons_zero, List.getElem_cons_succ, List.setIfInBounds_toArray, List.set_cons_zero, List.set_cons_succ]
        refine wpAny_take (i := 4) (v := ?_) rfl (by kernel_rfl) (by kernel_rfl) (by kernel_rfl) (fun _ _ _ h => h) (Or.inl ⟨by rfl, ?_⟩) ?_
        rotate_left
        · (intro w; go_simp; try (with_reducible rfl))
        try simp only [Act.put, List.getElem_toArray, List.getElem_cons_zero, List.getElem_cons_succ, List.setIfInBounds_toArray, List.set_cons_zero, List.set_cons_succ]
        refine wpAny_take (i := 5) (v := ?_) rfl (by kernel_rfl) (by kernel_rfl) (by kernel_rfl) (fun _ _ _ h => h) (Or.inl ⟨by rfl, ?_⟩) ?_
        rotate_left
        · (intro w; go_simp; try (with_reducible rfl))
        try simp only [Act.put, List.getElem_toArray, List.getElem_cons_zero, List.getElem_cons_succ, List.setIfInBounds_toArray, List.set_cons_zero, List.set_cons_succ]
        refine wpAny_take (i := 6) (v := ?_) rfl (by kernel_rfl) (by kernel_rfl) (by kernel_rfl) (fun _ _ _ h => h) (Or.inl ⟨by rfl, ?_⟩) ?_
        rotate_left
        · (intro w; go_simp; try (with_reducible rfl))
        try simp only [Act.put, List.getElem_toArray, List.getElem_cons_zero, List.getElem_cons_succ, List.setIfInBounds_toArray, List.set_cons_zero, List.set_cons_succ]
        refine wpAny_take (i := 7) (v := ?_) rfl (by kernel_rfl) (by kernel_rfl) (by kernel_rfl) (fun _ _ _ h => h) (Or.inl ⟨by rfl, ?_⟩) ?_
        rotate_left
        · (intro w; go_simp; try (with_reducible rfl))
        try simp only [Act.put, List.getElem_toArray, List.getElem_cons_zero, List.getElem_cons_succ, List.setIfInBounds_toArray, List.set_cons_zero, List.set_cons_succ]
        refine wpAny_take (i := 8) (v := ?_) rfl (by kernel_rfl) (by kernel_rfl) (by kernel_rfl) (fun _ _ _ h => h) (Or.inl ⟨by rfl, ?_⟩) ?_
        rotate_left
        · (intro w; go_simp; try (with_reducible rfl))
        try simp only [Act.put, List.getElem_toArray, List.getElem_cons_zero, List.getElem_cons_succ, List.setIfInBounds_toArray, List.set_cons_zero, List.set_cons_succ]
        refine wpAny_take (i := 9) (v := ?_) rfl (by kernel_rfl) (by kernel_rfl) (by kernel_rfl) (fun _ _ _ h => h) (Or.inl ⟨by rfl, ?_⟩) ?_
        rotate_left
        · (intro w; go_simp; try (with_reducible rfl))
        try simp only [Act.put, List.getElem_toArray, List.getElem_cons_zero, List.getElem_cons_succ, List.setIfInBounds_toArray, List.set_cons_zero, List.set_cons_succ]
        refine wpAny_take (i := 10) (v := ?_) rfl (by kernel_rfl) (by kernel_rfl) (by kernel_rfl) (fun _ _ _ h => h) (Or.inl ⟨by rfl, ?_⟩) ?_
        rotate_left
        · (intro w; go_simp; try (with_reducible rfl))
        try simp only [Act.put, List.getElem_toArray, List.getElem_cons_zero, List.getElem_cons_succ, List.setIfInBounds_toArray, List.set_cons_zero, List.set_cons_succ]
        refine wpAny_ready (rs := [11]) (by kernel_rfl) (by simp) ?_
        refine AllReady.cons rfl (fun K hK => ?_) AllReady.nil
        go_simp
        go_wp2_with (fail)
        refine hHH.out.1.mono ?_
        rintro e wa ⟨rfl, hba⟩
        have hBa := Aside0.mk (hBd.out.trans (hba.mono hBd.out.size))
        clear hba
        go_wp2_with (fail)
        first
        | (refine hK _ _ ?_; clear hK K)
        | clear hK K
        | skip
        try simp only [Act.put, List.getElem_toArray, List.getElem_cons_zero, List.getElem_cons_succ, List.setIfInBounds_toArray, List.set_cons_zero, List.set_cons_succ]
        refine wpAny_take (i := 12) (v := ?_) rfl (by kernel_rfl) (by kernel_rfl) (by kernel_rfl) (fun _ _ _ h => h) (Or.inl ⟨by rfl, ?_⟩) ?_
        rotate_left
        · (intro w; go_simp; try (with_reducible rfl))
        try simp only [Act.put, List.getElem_toArray, List.getElem_cons_zero, List.getElem_cons_succ, List.setIfInBounds_toArray, List.set_cons_zero, List.set_cons_succ]
        refine wpAny_take (i := 13) (v := ?_) rfl (by kernel_rfl) (by kernel_rfl) (by kernel_rfl) (fun _ _ _ h => h) (Or.inl ⟨by rfl, ?_⟩) ?_
        rotate_left
        · (intro w; go_simp; try (with_reducible rfl))
        try simp only [Act.put, List.getElem_toArray, List.getElem_cons_zero, List.getElem_cons_succ, List.setIfInBounds_toArray, List.set_cons_zero, List.set_cons_succ]
        refine wpAny_take (i := 14) (v := ?_) rfl (by kernel_rfl) (by kernel_rfl) (by kernel_rfl) (fun _ _ _ h => h) (Or.inl ⟨by rfl, ?_⟩) ?_
        rotate_left
        · (intro w; go_simp; try (with_reducible rfl))
        try simp only [Act.put, List.getElem_toArray, List.getElem_cons_zero, List.getElem_cons_succ, List.setIfInBounds_toArray, List.set_cons_zero, List.set_cons_succ]
        refine wpAny_take (i := 15) (v := ?_) rfl (by kernel_rfl) (by kernel_rfl) (by kernel_rfl) (fun _ _ _ h => h) (Or.inl ⟨by rfl, ?_⟩) ?_
        rotate_left
        · (intro w; go_simp; try (with_reducible rfl))
        try simp only [Act.put, List.getElem_toArray, List.getElem_cons_zero, List.getElem_cons_succ, List.setIfInBounds_toArray, List.set_cons_zero, List.set_cons_succ]
        refine wpAny_take (i := 16) (v := ?_) rfl (by kernel_rfl) (by kernel_rfl) (by kernel_rfl) (fun _ _ _ h => h) (Or.inl ⟨by rfl, ?_⟩) ?_
        rotate_left
        · (intro w; go_simp; try (with_reducible rfl))
        try simp only [Act.put, List.getElem_toArray, List.getElem_cons_zero, List.getElem_cons_succ, List.setIfInBounds_toArray, List.set_cons_zero, List.set_cons_succ]
        refine wpAny_take (i := 17) (v := ?_) rfl (by kernel_rfl) (by kernel_rfl) (by kernel_rfl) (fun _ _ _ h => h) (Or.inl ⟨by rfl, ?_⟩) ?_
        rotate_left
        · (intro w; go_simp; try (with_reducible rfl))
        try simp only [Act.put, List.getElem_toArray, List.getElem_cons_zero, List.getElem_cons_succ, List.setIfInBounds_toArray, List.set_cons_zero, List.set_cons_succ]
        refine wpAny_take (i := 18) (v := ?_) rfl (by kernel_rfl) (by kernel_rfl) (by kernel_rfl) (fun _ _ _ h => h) (Or.inl ⟨by rfl, ?_⟩) ?_
        rotate_left
        · (intro w; go_simp; try (with_reducible rfl))
        try simp only [Act.put, List.getElem_toArray, List.getElem_cons_zero, List.getElem_cons_succ, List.setIfInBounds_toArray, List.set_cons_zero, List.set_cons_succ]
        refine wpAny_take (i := 19) (v := ?_) rfl (by kernel_rfl) (by kernel_rfl) (by kernel_rfl) (fun _ _ _ h => h) (Or.inl ⟨by rfl, ?_⟩) ?_
        rotate_left
        · (intro w; go_simp; try (with_reducible rfl))
        try simp only [Act.put, List.getElem_toArray, List.getElem_cons_zero, List.getElem_cons_succ, List.setIfInBounds_toArray, List.set_cons_zero, List.set_cons_succ]
        refine wpAny_take (i := 20) (v := ?_) rfl (by kernel_rfl) (by kernel_rfl) (by kernel_rfl) (fun _ _ _ h => h) (Or.inl ⟨by rfl, ?_⟩) ?_
        rotate_left
        · (intro w; go_simp; try (with_reducible rfl))
        try simp only [Act.put, List.getElem_toArray, List.getElem_cons_zero, List.getElem_cons_succ, List.setIfInBounds_toArray, List.set_cons_zero, List.set_cons_succ]
        refine wpAny_take (i := 21) (v := ?_) rfl (by kernel_rfl) (by kernel_rfl) (by kernel_rfl) (fun _ _ _ h => h) (Or.inl ⟨by rfl, ?_⟩) ?_
        rotate_left
        · (intro w; go_simp; try (with_reducible rfl))
        try simp only [Act.put, List.getElem_toArray, List.getElem_cons_zero, List.getElem_cons_succ, List.setIfInBounds_toArray, List.set_cons_zero, List.set_cons_succ]
        refine wpAny_take (i := 22) (v := ?_) rfl (by kernel_rfl) (by kernel_rfl) (by kernel_rfl) (fun _ _ _ h => h) (Or.inl ⟨by rfl, ?_⟩) ?_
        rotate_left
        · (intro w; go_simp; try (with_reducible rfl))
        try simp only [Act.put, List.getElem_toArray, List.getElem_cons_zero, List.getElem_cons_succ, List.setIfInBounds_toArray, List.set_cons_zero, List.set_cons_succ]
        refine wpAny_take (i := 23) (v := ?_) rfl (by kernel_rfl) (by kernel_rfl) (by kernel_rfl) (fun _ _ _ h => h) (Or.inl ⟨by rfl, ?_⟩) ?_
        rotate_left
        · (intro w; go_simp; try (with_reducible rfl))
        try simp only [Act.put, List.getElem_toArray, List.getElem_cons_zero, List.getElem_cons_succ, List.setIfInBounds_toArray, List.set_cons_zero, List.set_cons_succ]
        refine wpAny_take (i := 24) (v := ?_) rfl (by kernel_rfl) (by kernel_rfl) (by kernel_rfl) (fun _ _ _ h => h) (Or.inl ⟨by rfl, ?_⟩) ?_
        rotate_left
        · (intro w; go_simp; try (with_reducible rfl))
        try simp only [Act.put, List.getElem_toArray, List.getElem_cons_zero, List.getElem_cons_succ, List.setIfInBounds_toArray, List.set_cons_zero, List.set_cons_succ]
        refine wpAny_take (i := 25) (v := ?_) rfl (by kernel_rfl) (by kernel_rfl) (by kernel_rfl) (fun _ _ _ h => h) (Or.inl ⟨by rfl, ?_⟩) ?_
        rotate_left
        · (intro w; go_simp; try (with_reducible rfl))
        try simp only [Act.put, List.getElem_toArray, List.getElem_cons_zero, List.getElem_cons_succ, List.setIfInBounds_toArray, List.set_cons_zero, List.set_cons_succ]
        refine wpAny_take (i := 27) (v := ?_) rfl (by kernel_rfl) (by kernel_rfl) (by kernel_rfl) (fun _ _ _ h => h) (Or.inl ⟨by rfl, ?_⟩) ?_
        rotate_left
        · (intro w; go_simp; try (with_reducible rfl))
        try simp only [Act.put, List.getElem_toArray, List.getElem_cons_zero, List.getElem_cons_succ, List.setIfInBounds_toArray, List.set_cons_zero, List.set_cons_succ]
        refine wpAny_take (i := 28) (v := ?_) rfl (by kernel_rfl) (by kernel_rfl) (by kernel_rfl) (fun _ _ _ h => h) (Or.inl ⟨by rfl, ?_⟩) ?_
        rotate_left
        · (intro w; go_simp; try (with_reducible rfl))
        try simp only [Act.put, List.getElem_toArray, List.getElem_cons_zero, List.getElem_cons_succ, List.setIfInBounds_toArray, List.set_cons_zero, List.set_cons_succ]
        refine wpAny_ready (rs := [26]) (by kernel_rfl) (by simp) ?_
        refine AllReady.cons rfl (fun K hK => ?_) AllReady.nil
        go_simp
        go_wp2_with (fail)
        refine (hHH.out.2.1 _ hBa.out).mono ?_
        rintro e wb ⟨rfl, hbb⟩
        have hBb := Aside0.mk (hBa.out.trans (hbb.mono hBa.out.size))
        clear hbb
        go_wp2_with (fail)
        first
        | (refine hK _ _ ?_; clear hK K)
        | clear hK K
        | skip
        try simp only [Act.put, List.getElem_toArray, List.getElem_cons_zero, List.getElem_cons_succ, List.setIfInBounds_toArray, List.set_cons_zero, List.set_cons_succ]
        refine wpAny_ready (rs := [29]) (by kernel_rfl) (by simp) ?_
        refine AllReady.cons rfl (fun K hK => ?_) AllReady.nil
        go_simp
        go_wp2_with (fail)
        refine (hHH.out.2.2.1 _ hBb.out).mono ?_
        rintro e wc ⟨rfl, hbc⟩
        have hBc := Aside0.mk (hBb.out.trans (hbc.mono hBb.out.size))
        clear hbc
        go_wp2_with (fail)
        first
        | (refine hK _ _ ?_; clear hK K)
        | clear hK K
        | skip
        try simp only [Act.put, List.getElem_toArray, List.getElem_cons_zero, List.getElem_cons_succ, List.setIfInBounds_toArray, List.set_cons_zero, List.set_cons_succ]
        refine wpAny_take (i := 30) (v := ?_) rfl (by kernel_rfl) (by kernel_rfl) (by kernel_rfl) (fun _ _ _ h => h) (Or.inl ⟨by rfl, ?_⟩) ?_
        rotate_left
        · (intro w; go_simp; try (with_reducible rfl))
        try simp only [Act.put, List.getElem_toArray, List.getElem_cons_zero, List.getElem_cons_succ, List.setIfInBounds_toArray, List.set_cons_zero, List.set_cons_succ]
        refine wpAny_take (i := 31) (v := ?_) rfl (by kernel_rfl) (by kernel_rfl) (by kernel_rfl) (fun _ _ _ h => h) (Or.inl ⟨by rfl, ?_⟩) ?_
        rotate_left
        · (intro w; go_simp; try (with_reducible rfl))
        try simp only [Act.put, List.getElem_toArray, List.getElem_cons_zero, List.getElem_cons_succ, List.setIfInBounds_toArray, List.set_cons_zero, List.set_cons_succ]
        refine wpAny_take (i := 32) (v := ?_) rfl (by kernel_rfl) (by kernel_rfl) (by kernel_rfl) (fun _ _ _ h => h) (Or.inl ⟨by rfl, ?_⟩) ?_
        rotate_left
        · (intro w; go_simp; try (with_reducible rfl))
        try simp only [Act.put, List.getElem_toArray, List.getElem_cons_zero, List.getElem_cons_succ, List.setIfInBounds_toArray, List.set_cons_zero, List.set_cons_succ]
        refine wpAny_take (i := 33) (v := ?_) rfl (by kernel_rfl) (by kernel_rfl) (by kernel_rfl) (fun _ _ _ h => h) (Or.inl ⟨by rfl, ?_⟩) ?_
        rotate_left
        · (intro w; go_simp; try (with_reducible rfl))
        try simp only [Act.put, List.getElem_toArray, List.getElem_cons_zero, List.getElem_cons_succ, List.setIfInBounds_toArray, List.set_cons_zero, List.set_cons_succ]
        refine wpAny_take (i := 34) (v := ?_) rfl (by kernel_rfl) (by kernel_rfl) (by kernel_rfl) (fun _ _ _ h => h) (Or.inl ⟨by rfl, ?_⟩) ?_
        rotate_left
        · (intro w; go_simp; try (with_reducible rfl))
        try simp only [Act.put, List.getElem_toArray, List.getElem_cons_zero, List.getElem_cons_succ, List.setIfInBounds_toArray, List.set_cons_zero, List.set_cons_succ]
        refine wpAny_ready (rs := [35]) (by kernel_rfl) (by simp) ?_
        refine AllReady.cons rfl (fun K hK => ?_) AllReady.nil
        go_simp
        go_wp2_with (fail)
        refine (hHH.out.2.2.2.1 _ hBc.out).mono ?_
        rintro e wd ⟨rfl, hbd⟩
        have hBd3 := Aside0.mk (hBc.out.trans (hbd.mono hBc.out.size))
        clear hbd
        go_wp2_with (fail)
        first
        | (refine hK _ _ ?_; clear hK K)
        | clear hK K
        | skip
        try simp only [Act.put, List.getElem_toArray, List.getElem_cons_zero, List.getElem_cons_succ, List.setIfInBounds_toArray, List.set_cons_zero, List.set_cons_succ]
        refine wpAny_take (i := 36) (v := ?_) rfl (by kernel_rfl) (by kernel_rfl) (by kernel_rfl) (fun _ _ _ h => h) (Or.inl ⟨by rfl, ?_⟩) ?_
        rotate_left
        · (intro w; go_simp; try (with_reducible rfl))
        try simp only [Act.put, List.getElem_toArray, List.getElem_cons_zero, List.getElem_cons_succ, List.setIfInBounds_toArray, List.set_cons_zero, List.set_cons_succ]
        refine wpAny_take (i := 37) (v := ?_) rfl (by kernel_rfl) (by kernel_rfl) (by kernel_rfl) (fun _ _ _ h => h) (Or.inl ⟨by rfl, ?_⟩) ?_
        rotate_left
        · (intro w; go_simp; try (with_reducible rfl))
        try simp only [Act.put, List.getElem_toArray, List.getElem_cons_zero, List.getElem_cons_succ, List.setIfInBounds_toArray, List.set_cons_zero, List.set_cons_succ]
        refine wpAny_take (i := 38) (v := ?_) rfl (by kernel_rfl) (by kernel_rfl) (by kernel_rfl) (fun _ _ _ h => h) (Or.inl ⟨by rfl, ?_⟩) ?_
        rotate_left
        · (intro w; go_simp; try (with_reducible rfl))
        try simp only [Act.put, List.getElem_toArray, List.getElem_cons_zero, List.getElem_cons_succ, List.setIfInBounds_toArray, List.set_cons_zero, List.set_cons_succ]
        refine wpAny_take (i := 41) (v := ?_) rfl (by kernel_rfl) (by kernel_rfl) (by kernel_rfl) (fun _ _ _ h => h) (Or.inl ⟨by rfl, ?_⟩) ?_
        rotate_left
        · (intro w; go_simp; try (with_reducible rfl))
        try simp only [Act.put, List.getElem_toArray, List.getElem_cons_zero, List.getElem_cons_succ, List.setIfInBounds_toArray, List.set_cons_zero, List.set_cons_succ]
        refine wpAny_ready (rs := [39]) (by kernel_rfl) (by simp) ?_
        refine AllReady.cons rfl (fun K hK => ?_) AllReady.nil
        go_simp
        go_wp2_with (fail)
        refine (hHH.out.2.2.2.2.1 _ hBd3.out).mono ?_
        rintro e we ⟨ve, rfl, hRe0, hbe⟩
        obtain ⟨Ae, ce, rfl⟩ := Kd.R_slice hRe0
        have hRe := Aside0.mk hRe0
        have qee := Kd.C_string (P := Tryz.prog) (c := ce) Tryz.underlying22 Tryz.underlying5 Tryz.underlying9 (Kd.R_reads' hRe0).2.2
        rw [hstA.out] at qee
        have hBe := Aside0.mk (hBd3.out.trans (hbe.mono hBd3.out.size))
        clear hRe0 hbe
        go_wp2_with (fail)
        first
        | (refine hK _ _ ?_; clear hK K)
        | clear hK K
        | skip
        try simp only [Act.put, List.getElem_toArray, List.getElem_cons_zero, List.getElem_cons_succ, List.setIfInBounds_toArray, List.set_cons_zero, List.set_cons_succ]
        refine wpAny_ready (rs := [40, 42]) (by kernel_rfl) (by simp) ?_
        refine AllReady.cons rfl (fun K hK => ?_) (AllReady.cons rfl (fun K hK => ?_) AllReady.nil)
        · skip
          go_simp
          first
          | (refine hK _ _ ?_; clear hK K)
          | clear hK K
          | skip
          try simp only [Act.put, List.getElem_toArray, List.getElem_cons_zero, List.getElem_cons_succ, List.setIfInBounds_toArray, List.set_cons_zero, List.set_cons_succ]
          refine wpAny_ready (rs := [42]) (by kernel_rfl) (by simp) ?_
          refine AllReady.cons rfl (fun K hK => ?_) AllReady.nil
          go_simp
          go_wp2_with (fail)
          refine (hHH.out.2.2.2.2.2 _ hBe.out).mono ?_
          rintro e wf ⟨vf, rfl, hRf, hbf⟩
          obtain ⟨Af, cf, rfl⟩ := Kd.R_slice hRf
          have qff := Kd.C_string (P := Tryz.prog) (c := cf) Tryz.underlying22 Tryz.underlying5 Tryz.underlying9 (Kd.R_reads' hRf).2.2
          rw [hstA.out] at qff
          have qfe := Kd.C_string (P := Tryz.prog) (c := ce) Tryz.underlying22 Tryz.underlying5 Tryz.underlying9 (Kd.C_below (Kd.R_reads' hRe.out).2.2 hbf)
          rw [hstA.out] at qfe
          have hBf := Aside0.mk (hBe.out.trans (hbf.mono hBe.out.size))
          clear hRf hbf
          go_wp2_with (fail)
          first
          | (refine hK _ _ ?_; clear hK K)
          | clear hK K
          | skip
          try simp only [Act.put, List.getElem_toArray, List.getElem_cons_zero, List.getElem_cons_succ, List.setIfInBounds_toArray, List.set_cons_zero, List.set_cons_succ]
          refine wpAny_ready (rs := [43]) (by kernel_rfl) (by simp) ?_
          refine AllReady.cons rfl (fun K hK => ?_) AllReady.nil
          go_simp
          first
          | (refine hK _ _ ?_; clear hK K)
          | clear hK K
          | skip
          try simp only [Act.put, List.getElem_toArray, List.getElem_cons_zero, List.getElem_cons_succ, List.setIfInBounds_toArray, List.set_cons_zero, List.set_cons_succ]
          refine wpAny_take (i := 44) (v := ?_) rfl (by kernel_rfl) (by kernel_rfl) (by kernel_rfl) (fun _ _ _ h => h) (Or.inl ⟨by rfl, ?_⟩) ?_
          rotate_left
          · (intro w; go_simp; try (with_reducible rfl))
          try simp only [Act.put, List.getElem_toArray, List.getElem_cons_zero, List.getElem_cons_succ, List.setIfInBounds_toArray, List.set_cons_zero, List.set_cons_succ]
          refine wpAny_take (i := 45) (v := ?_) rfl (by kernel_rfl) (by kernel_rfl) (by kernel_rfl) (fun _ _ _ h => h) (Or.inl ⟨by rfl, ?_⟩) ?_
          rotate_left
          · (intro w; go_simp; try (with_reducible rfl))
          try simp only [Act.put, List.getElem_toArray, List.getElem_cons_zero, List.getElem_cons_succ, List.setIfInBounds_toArray, List.set_cons_zero, List.set_cons_succ]
          refine wpAny_take (i := 46) (v := ?_) rfl (by kernel_rfl) (by kernel_rfl) (by kernel_rfl) (fun _ _ _ h => h) (Or.inl ⟨by rfl, ?_⟩) ?_
          rotate_left
          · (intro w; go_simp; try (with_reducible rfl))
          try simp only [Act.put, List.getElem_toArray, List.getElem_cons_zero, List.getElem_cons_succ, List.setIfInBounds_toArray, List.set_cons_zero, List.set_cons_succ]
          refine wpAny_done (by kernel_rfl) ?_ _
          go_wp2_with (fail)
          go_ret
          exact ⟨rfl, hBf.out⟩
        · skip
          go_simp
          go_wp2_with (fail)
          refine (hHH.out.2.2.2.2.2 _ hBe.out).mono ?_
          rintro e wf ⟨vf, rfl, hRf, hbf⟩
          obtain ⟨Af, cf, rfl⟩ := Kd.R_slice hRf
          have qff := Kd.C_string (P := Tryz.prog) (c := cf) Tryz.underlying22 Tryz.underlying5 Tryz.underlying9 (Kd.R_reads' hRf).2.2
          rw [hstA.out] at qff
          have qfe := Kd.C_string (P := Tryz.prog) (c := ce) Tryz.underlying22 Tryz.underlying5 Tryz.underlying9 (Kd.C_below (Kd.R_reads' hRe.out).2.2 hbf)
          rw [hstA.out] at qfe
          have hBf := Aside0.mk (hBe.out.trans (hbf.mono hBe.out.size))
          clear hRf hbf
          go_wp2_with (fail)
          first
          | (refine hK _ _ ?_; clear hK K)
          | clear hK K
          | skip
          try simp only [Act.put, List.getElem_toArray, List.getElem_cons_zero, List.getElem_cons_succ, List.setIfInBounds_toArray, List.set_cons_zero, List.set_cons_succ]
          refine wpAny_ready (rs := [40, 43]) (by kernel_rfl) (by simp) ?_
          refine AllReady.cons rfl (fun K hK => ?_) (AllReady.cons rfl (fun K hK => ?_) AllReady.nil)
          · skip
            go_simp
            first
            | (refine hK _ _ ?_; clear hK K)
            | clear hK K
            | skip
            try simp only [Act.put, List.getElem_toArray, List.getElem_cons_zero, List.getElem_cons_succ, List.setIfInBounds_toArray, List.set_cons_zero, List.set_cons_succ]
            refine wpAny_ready (rs := [43]) (by kernel_rfl) (by simp) ?_
            refine AllReady.cons rfl (fun K hK => ?_) AllReady.nil
            go_simp
            first
            | (refine hK _ _ ?_; clear hK K)
            | clear hK K
            | skip
            try simp only [Act.put, List.getElem_toArray, List.getElem_cons_zero, List.getElem_cons_succ, List.setIfInBounds_toArray, List.set_cons_zero, List.set_cons_succ]
            refine wpAny_take (i := 44) (v := ?_) rfl (by kernel_rfl) (by kernel_rfl) (by kernel_rfl) (fun _ _ _ h => h) (Or.inl ⟨by rfl, ?_⟩) ?_
            rotate_left
            · (intro w; go_simp; try (with_reducible rfl))
            try simp only [Act.put, List.getElem_toArray, List.getElem_cons_zero, List.getElem_cons_succ, List.setIfInBounds_toArray, List.set_cons_zero, List.set_cons_succ]
            refine wpAny_take (i := 45) (v := ?_) rfl (by kernel_rfl) (by kernel_rfl) (by kernel_rfl) (fun _ _ _ h => h) (Or.inl ⟨by rfl, ?_⟩) ?_
            rotate_left
            · (intro w; go_simp; try (with_reducible rfl))
            try simp only [Act.put, List.getElem_toArray, List.getElem_cons_zero, List.getElem_cons_succ, List.setIfInBounds_toArray, List.set_cons_zero, List.set_cons_succ]
            refine wpAny_take (i := 46) (v := ?_) rfl (by kernel_rfl) (by kernel_rfl) (by kernel_rfl) (fun _ _ _ h => h) (Or.inl ⟨by rfl, ?_⟩) ?_
            rotate_left
            · (intro w; go_simp; try (with_reducible rfl))
            try simp only [Act.put, List.getElem_toArray, List.getElem_cons_zero, List.getElem_cons_succ, List.setIfInBounds_toArray, List.set_cons_zero, List.set_cons_succ]
            refine wpAny_done (by kernel_rfl) ?_ _
            go_wp2_with (fail)
            go_ret
            exact ⟨rfl, hBf.out⟩
          · skip
            go_simp
            first
            | (refine hK _ _ ?_; clear hK K)
            | clear hK K
            | skip
            try simp only [Act.put, List.getElem_toArray, List.getElem_cons_zero, List.getElem_cons_succ, List.setIfInBounds_toArray, List.set_cons_zero, List.set_cons_succ]
            refine wpAny_ready (rs := [40]) (by kernel_rfl) (by simp) ?_
            refine AllReady.cons rfl (fun K hK => ?_) AllReady.nil
            go_simp
            first
            | (refine hK _ _ ?_; clear hK K)
            | clear hK K
            | skip
            try simp only [Act.put, List.getElem_toArray, List.getElem_cons_zero, List.getElem_cons_succ, List.setIfInBounds_toArray, List.set_cons_zero, List.set_cons_succ]
            refine wpAny_take (i := 44) (v := ?_) rfl (by kernel_rfl) (by kernel_rfl) (by kernel_rfl) (fun _ _ _ h => h) (Or.inl ⟨by rfl, ?_⟩) ?_
            rotate_left
            · (intro w; go_simp; try (with_reducible rfl))
            try simp only [Act.put, List.getElem_toArray, List.getElem_cons_zero, List.getElem_cons_succ, List.setIfInBounds_toArray, List.set_cons_zero, List.set_cons_succ]
            refine wpAny_take (i := 45) (v := ?_) rfl (by kernel_rfl) (by kernel_rfl) (by kernel_rfl) (fun _ _ _ h => h) (Or.inl ⟨by rfl, ?_⟩) ?_
            rotate_left
            · (intro w; go_simp; try (with_reducible rfl))
            try simp only [Act.put, List.getElem_toArray, List.getElem_cons_zero, List.getElem_cons_succ, List.setIfInBounds_toArray, List.set_cons_zero, List.set_cons_succ]
            refine wpAny_take (i := 46) (v := ?_) rfl (by kernel_rfl) (by kernel_rfl) (by kernel_rfl) (fun _ _ _ h => h) (Or.inl ⟨by rfl, ?_⟩) ?_
            rotate_left
            · (intro w; go_simp; try (with_reducible rfl))
            try simp only [Act.put, List.getElem_toArray, List.getElem_cons_zero, List.getElem_cons_succ, List.setIfInBounds_toArray, List.set_cons_zero, List.set_cons_succ]
            refine wpAny_done (by kernel_rfl) ?_ _
            go_wp2_with (fail)
            go_ret
            exact ⟨rfl, hBf.out⟩
end Go.Proofs.YtbiogabekhegaaaGreatDoor.Hand
