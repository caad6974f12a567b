/- Effects' text is parsed as them, what is parsed is written as that text: the law's walk. -/
import Derived.Test.YtbiogabekhegaaaGreatDoorPlainBack07
namespace Go.Proofs.YtbiogabekhegaaaGreatDoor.Hand
open Go.RowKit Go.Proofs.YtbiogabekhegaaaGreatDoorW.PrintWords Go.Proofs.YtbiogabekhegaaaGreatDoorW.PrintLast
open Go.Proofs.YtbiogabekhegaaaGreatDoor.PWritten (S27 S25 k27 z27 rd_T27 at_T27 k27_mk)
set_option linter.unusedVariables false
set_option linter.unusedSimpArgs false
theorem sameL_self (l : List S27) : sameL l l = true := sameL_yes rfl fun j hj => by simp [sameE]
/-- What is parsed, as a whole. -/
def prsR (s : ByteArray) : List S27 × Nat × Int := prsL (splitB 10 s.data.toList) []
theorem split_short (s : ByteArray) (n : Nat) (h : s.size ≤ n) : ∀ p ∈ splitB 10 s.data.toList, p.length ≤ n := by
  intro z hz
  have := pieces_size 10 s (ba z) (by unfold pieces; exact List.mem_map_of_mem hz)
  rw [Lib.size_eq (ba z), data_ba] at this
  omega
set_option maxHeartbeats 8000000 in
set_option maxRecDepth 100000 in
theorem TraceBack_walk (a0 : Option Addr) (c0 : Nat) (L0 : List S27) (s : ByteArray) (w : World) (HT : TabA w)
    (w0 : L0.length ≤ c0) (y0 : Kd.C k27 w a0 L0.length L0) (x0 : ∀ E ∈ L0, EffWf E) (g0 : greatN L0 ≤ 1048576) (w1 : s.size ≤ 140737488351232) :
    Calls Tryz.prog 6 #[.slice a0 L0.length c0, .string s] w fun e w' => e = .returned (.bool true) ∧ Below w.heap.size w w' := by
  have hT := Aside0.mk HT
  have hX := Aside0.mk x0
  have hC := Aside0.mk y0
  have hG := Aside0.mk g0
  have HA := alive_ok w HT
  clear HT y0 x0
  go_enter Tryz.func6, Tryz.ntmps6
  go_wp2_with (fail)
  refine HA.mono ?_
  rintro e w2 ⟨rfl, hb2⟩
  have HG0 := great_ok L0 a0 c0 w2 (Kd.C_below hC.out hb2) (by have := hG.out; omega)
  have hB2 := Aside0.mk hb2
  clear HA hb2
  by_cases hout : 1500 < greatN L0 ∨ 2000 < s.size
  · have HA3 := fun w3 hb => alive_ok w3 (hT.out.below hb)
    by_cases hg0 : 1500 < greatN L0
    · rw [decide_eq_true hg0] at HG0
      clear hg0 hout
      go_wp2_with (fail)
      refine HG0.mono ?_
      rintro e w3 ⟨rfl, hb3⟩
      have hB3 := Aside0.mk (hB2.out.trans (hb3.mono hB2.out.size))
      clear HG0 hb3 hB2
      go_wp2_with (fail)
      refine (HA3 _ hB3.out).mono ?_
      rintro e w4 ⟨rfl, hb4⟩
      go_wp2_with (fail)
      go_ret
      exact ⟨rfl, hB3.out.trans (hb4.mono hB3.out.size)⟩
    · have hs2 : (2000 : Int) < (s.size : Int) := by rcases hout with h | h <;> omega
      rw [decide_eq_false hg0] at HG0
      clear hg0 hout
      go_wp2_with (fail)
      refine HG0.mono ?_
      rintro e w3 ⟨rfl, hb3⟩
      have hB3 := Aside0.mk (hB2.out.trans (hb3.mono hB2.out.size))
      clear HG0 hb3 hB2
      go_wp2_with (fail)
      refine (HA3 _ hB3.out).mono ?_
      rintro e w4 ⟨rfl, hb4⟩
      go_wp2_with (fail)
      go_ret
      exact ⟨rfl, hB3.out.trans (hb4.mono hB3.out.size)⟩
  · have hg0 : ¬ 1500 < greatN L0 := fun e => hout (.inl e)
    have hs2 : ¬ (2000 : Int) < (s.size : Int) := fun e => hout (.inr (by omega))
    rw [decide_eq_false hg0] at HG0
    have hgA := Aside0.mk (Nat.le_of_not_lt hg0)
    have hl0 : L0.length ≤ 1500 := Nat.le_trans (greatN_len L0) hgA.out
    have hsA : Aside0 (s.size ≤ 2000) := ⟨by omega⟩
    clear hg0 hout
    generalize hxn : L0.length = n at *
    have hnA := Aside0.mk hxn
    clear hxn
    go_wp2_with (fail)
    refine HG0.mono ?_
    rintro e w3 ⟨rfl, hb3⟩
    have hB3 := Aside0.mk (hB2.out.trans (hb3.mono hB2.out.size))
    clear HG0 hb3 hB2
    go_wp2_with (fail)
    go_loopw [31] (fun v31 wr => ∃ x : Int, v31 = .int .i64 x ∧ Aside0 (0 ≤ x ∧ x ≤ n) ∧ Aside0 (∀ j : Nat, j < x.toNat → (rd_T27 L0 j).f3 ≤ 576460752303423488) ∧ Aside0 (Below w.heap.size w wr)) (fun v31 _ => n - (intOf v31).toNat)
    case atStart => exact ⟨0, rfl, ⟨by omega⟩, ⟨fun j hj => absurd hj (Nat.not_lt_zero _)⟩, hB3⟩
    case round =>
      obtain ⟨x, rfl, hxr, hN, hB⟩ := hrel
      by_cases hlt : x < n
      · have h0 : 0 ≤ x := hxr.out.1
        obtain ⟨ad, A4, c4, eA, q0, q1, q2, q3, q4, q5, q6, ql, qC⟩ := at_T27 (Kd.C_below hC.out hB.out) x h0 hlt
        subst eA
        have hxx := Aside0.mk (show x = ((x.toNat : Nat) : Int) by omega)
        have hal1 : Below wr.heap.size wr (wr.alloc (.cells (effV (rd_T27 L0 x) A4 c4) 27)) := (Below.refl _ wr).alloc (Nat.le_refl _) _
        have hE := Aside0.mk (heap_alloc_new wr (.cells (effV (rd_T27 L0 x) A4 c4) 27))
        have hAL := Aside0.mk (hB.out.trans (hal1.mono hB.out.size))
        clear qC ql hal1 hB
        generalize hEE : rd_T27 L0 x = E at *
        have hEA := Aside0.mk hEE
        clear hEE
        go_upto_region 6 with (fail)
        generalize wr.alloc (.cells _ 27) = W at *
        have m5 : W.cell? ⟨wr.heap.size, 5, none⟩ = some (.int .i64 E.f3) := blk_cell hE.out 5
        have hw64 : wrap64 (x + 1) = x + 1 := by unfold wrap64; omega
        clear q0 q1 q2 q3 q4 q5 q6
        by_cases hb : 576460752303423488 < E.f3
        · go_wp2_with (fail)
          go_ret
          exact ⟨rfl, hAL.out⟩
        · go_wp2_with (fail)
          go_roundw
          case rel =>
            refine ⟨x + 1, by go_num, ⟨by omega⟩, ⟨fun j hj => ?_⟩, hAL⟩
            by_cases hj2 : j < x.toNat
            · exact hN.out j hj2
            · obtain rfl : j = x.toNat := by omega
              rw [← hxx.out, hEA.out]
              omega
          case measure => simp [intOf]; omega
      · have hxn : x = n := by have := hxr.out; omega
        subst hxn
        have hN2 : ∀ E ∈ L0, E.f3 ≤ 576460752303423488 := by
          intro E he
          obtain ⟨j, hj, rfl⟩ := List.mem_iff_getElem.1 he
          have := hN.out j (by rw [hnA.out] at hj; omega)
          unfold rd_T27 at this
          rw [List.getD_eq_getElem?_getD, Int.toNat_natCast, List.getElem?_eq_getElem hj] at this
          exact this
        have hXA : ∀ E ∈ L0, EffWr E := fun E he => (hX.out E he).wr (Nat.le_trans (greatN_mem he) (by have := hgA.out; omega))
        have hXS : ∀ E ∈ L0, E.f2.length ≤ 1500 := fun E he => Nat.le_trans (greatN_mem he) hgA.out
        have HF0 := format_ok L0 a0 c0 wr (hT.out.below hB.out) (by rw [hnA.out]; exact Kd.C_below hC.out hB.out) hXA (by rw [hnA.out]; omega)
        have HFA := fun (hz : fmtBad L0 = 0) => prs_fmt L0 [] hXA hN2 hXS hz
        have HQA := Aside0.mk (fun W (hb : Below wr.heap.size wr W) => parse7_ok s (by have := hsA.out; omega) (split_short s 30000 (by have := hsA.out; omega)) W (hT.out.below (hB.out.trans (hb.mono hB.out.size))))
        have hcase : Aside0 (((prsL (splitB 10 s.data.toList) []).2.2 ≠ 0 ∧ (prsL (splitB 10 s.data.toList) []).1 = []) ∨ ∃ m : List S27, prsL (splitB 10 s.data.toList) [] = (m, m.length, 0) ∧ m.length ≤ 20000 ∧ fmtR m = (s, 0) ∧ ∀ x ∈ m, EffWr x) := ⟨by
          by_cases he : (prsL (splitB 10 s.data.toList) []).2.2 = 0
          · obtain ⟨l, g1, g2, g3, g4, g5, g6⟩ := fmt_prs (splitB 10 s.data.toList) [] (prsL (splitB 10 s.data.toList) []).1 (prsL (splitB 10 s.data.toList) []).2.1 (splitB_ne 10 _) (split_short s 30000 (by have := hsA.out; omega)) (Prod.ext rfl (Prod.ext rfl he))
            have hle := split_length 10 s.data.toList
            rw [← Lib.size_eq] at hle
            have hs2 := hsA.out
            rw [List.nil_append] at g1
            rw [← g1] at g3 g4 g5 g6
            have g7 : (prsL (splitB 10 s.data.toList) []).1.length ≤ 20000 := by omega
            refine .inr ⟨_, Prod.ext rfl (Prod.ext g2 he), g7, ?_, g5⟩
            unfold fmtR
            rw [if_pos g4, g6, join_split]
          · exact .inl ⟨he, prs_err _ _ he⟩⟩
        have hl5 : L0.length ≤ 1500 := by rw [hnA.out]; exact hl0
        clear hN hN2 hX hG hl0
        by_cases hz : fmtBad L0 = 0
        · obtain ⟨k1, k2, k3⟩ := HFA hz
          have hfr : fmtR L0 = (ba (fmtL L0), 0) := if_pos hz
          rw [hfr] at HF0
          have HP := fun W (hb : Below wr.heap.size wr W) => parse7_ok (ba (fmtL L0)) (by rw [Lib.size_eq, data_ba]; omega) (by rw [data_ba]; exact k2) W (hT.out.below (hB.out.trans (hb.mono hB.out.size)))
          rw [data_ba, k1] at HP
          simp only [List.nil_append, List.length_nil, Nat.zero_add] at HP
          have HS := fun W A5 c5 (h1 : Kd.C k27 W a0 L0.length L0) (h2 : Kd.C k27 W A5 L0.length L0) => traceSame_ok L0 L0 a0 A5 c0 c5 W h1 h2
          simp only [sameL_self] at HS
          rw [hnA.out] at HF0 HS HP
          clear HFA k1 k2 k3 hz hfr hXA hXS
          have HSA := Aside0.mk HS
          have HPA := Aside0.mk HP
          clear HS HP
          generalize ba (fmtL L0) = T0 at *
          go_wp2_with (fail)
          refine HF0.mono ?_
          rintro e w5 ⟨rfl, hb5⟩
          have hB5 := Aside0.mk hb5
          clear hb5 HF0
          go_wp2_with (fail)
          refine (HPA.out _ hB5.out).mono ?_
          rintro e w6 ⟨v6, rfl, hR6, hb6⟩
          obtain ⟨A6, c6, rfl⟩ := Kd.R_slice hR6
          have hB6 := Aside0.mk (hB5.out.trans (hb6.mono hB5.out.size))
          have hC6 := (Kd.R_reads' hR6).2.2
          rw [hnA.out] at hC6 ⊢
          have hC0 := Kd.C_below hC.out (hB.out.trans (hB6.out.mono hB.out.size))
          have HS6 := HSA.out w6 A6 c6 hC0 hC6
          clear hR6 hb6 hC6 hC0 HSA HPA hB5
          go_wp2_with (fail)
          refine HS6.mono ?_
          rintro e w7 ⟨rfl, hb7⟩
          have hB7 := Aside0.mk (hB6.out.trans (hb7.mono hB6.out.size))
          clear hb7 HS6 hB6
          rcases hcase.out with ⟨he, h1⟩ | ⟨m, h1, h2, h3, h4⟩
          · have HQ1 := HQA.out w7 hB7.out
            generalize prsL (splitB 10 s.data.toList) [] = R at *
            obtain ⟨m, nn, er⟩ := R
            simp only at he h1
            subst h1
            have hez : (er != 0) = true := bne_iff_ne.mpr he
            clear he
            go_wp2_with (fail)
            refine HQ1.mono ?_
            rintro e wq ⟨v, rfl, hRq, hbq⟩
            obtain ⟨Aq, cq, rfl⟩ := Kd.R_slice hRq
            have hln : ([] : List S27).length = 0 := rfl
            rw [hln]
            have hBq := Aside0.mk (hB.out.trans ((hB7.out.trans (hbq.mono hB7.out.size)).mono hB.out.size))
            clear hRq hbq HQ1
            go_wp2_with (fail)
            go_ret
            exact ⟨rfl, hBq.out⟩
          · have HQ1 := HQA.out w7 hB7.out
            rw [h1] at HQ1
            clear h1
            go_wp2_with (fail)
            refine HQ1.mono ?_
            rintro e wq ⟨v, rfl, hRq, hbq⟩
            obtain ⟨Aq, cq, rfl⟩ := Kd.R_slice hRq
            have hbw := hB7.out.trans (hbq.mono hB7.out.size)
            have HFm := format_ok m Aq cq wq (hT.out.below (hB.out.trans (hbw.mono hB.out.size))) (Kd.R_reads' hRq).2.2 h4 h2
            rw [h3] at HFm
            have hBq := Aside0.mk (hB.out.trans (hbw.mono hB.out.size))
            clear hRq hbq HQ1 hbw h3 h4 h2
            generalize m.length = mn at *
            go_wp2_with (fail)
            refine HFm.mono ?_
            rintro e wz ⟨rfl, hbz⟩
            have hBz := Aside0.mk (hBq.out.trans (hbz.mono hBq.out.size))
            clear HFm hbz hBq
            go_wp2_with (fail)
            go_ret
            exact ⟨rfl, hBz.out⟩
        · have hfr : fmtR L0 = (⟨#[]⟩, fmtBad L0) := if_neg hz
          rw [hfr, hnA.out] at HF0
          have hbz : (fmtBad L0 == 0) = false := beq_eq_false_iff_ne.mpr hz
          clear HFA hfr hXA hXS hz
          generalize fmtBad L0 = b0 at *
          go_wp2_with (fail)
          refine HF0.mono ?_
          rintro e w7 ⟨rfl, hb7⟩
          have hB7 := Aside0.mk hb7
          clear hb7 HF0
          rcases hcase.out with ⟨he, h1⟩ | ⟨m, h1, h2, h3, h4⟩
          · have HQ1 := HQA.out w7 hB7.out
            generalize prsL (splitB 10 s.data.toList) [] = R at *
            obtain ⟨m, nn, er⟩ := R
            simp only at he h1
            subst h1
            have hez : (er != 0) = true := bne_iff_ne.mpr he
            clear he
            go_wp2_with (fail)
            refine HQ1.mono ?_
            rintro e wq ⟨v, rfl, hRq, hbq⟩
            obtain ⟨Aq, cq, rfl⟩ := Kd.R_slice hRq
            have hln : ([] : List S27).length = 0 := rfl
            rw [hln]
            have hBq := Aside0.mk (hB.out.trans ((hB7.out.trans (hbq.mono hB7.out.size)).mono hB.out.size))
            clear hRq hbq HQ1
            go_wp2_with (fail)
            go_ret
            exact ⟨rfl, hBq.out⟩
          · have HQ1 := HQA.out w7 hB7.out
            rw [h1] at HQ1
            clear h1
            go_wp2_with (fail)
            refine HQ1.mono ?_
            rintro e wq ⟨v, rfl, hRq, hbq⟩
            obtain ⟨Aq, cq, rfl⟩ := Kd.R_slice hRq
            have hbw := hB7.out.trans (hbq.mono hB7.out.size)
            have HFm := format_ok m Aq cq wq (hT.out.below (hB.out.trans (hbw.mono hB.out.size))) (Kd.R_reads' hRq).2.2 h4 h2
            rw [h3] at HFm
            have hBq := Aside0.mk (hB.out.trans (hbw.mono hB.out.size))
            clear hRq hbq HQ1 hbw h3 h4 h2
            generalize m.length = mn at *
            go_wp2_with (fail)
            refine HFm.mono ?_
            rintro e wz ⟨rfl, hbz⟩
            have hBz := Aside0.mk (hBq.out.trans (hbz.mono hBq.out.size))
            clear HFm hbz hBq
            go_wp2_with (fail)
            go_ret
            exact ⟨rfl, hBz.out⟩
end Go.Proofs.YtbiogabekhegaaaGreatDoor.Hand
