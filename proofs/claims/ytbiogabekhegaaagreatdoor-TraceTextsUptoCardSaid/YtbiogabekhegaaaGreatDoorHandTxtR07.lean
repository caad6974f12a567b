/- The document's Format and Parse. -/
import Derived.Test.YtbiogabekhegaaaGreatDoorHandRdR07
import Derived.Test.YtbiogabekhegaaaGreatDoorHandLineR07
namespace Go.Proofs.YtbiogabekhegaaaGreatDoor.Hand
open Go.RowKit Go.Proofs.YtbiogabekhegaaaGreatDoorW.PrintWords Go.Proofs.YtbiogabekhegaaaGreatDoorW.PrintLast
open Go.Proofs.YtbiogabekhegaaaGreatDoor.PWritten (S27 S25 k27 z27 rd_T27 at_T27 k27_mk k27_mkM)
set_option linter.unusedVariables false
set_option linter.unusedSimpArgs false
set_option maxHeartbeats 4000000 in
set_option maxRecDepth 100000 in
theorem refFormat_ok (xs : List S27) (A : Option Addr) (c : Nat) (w : World) (hx : Kd.C k27 w A xs.length xs) (hE : ∀ x ∈ xs, EffWr x) (hn : xs.length ≤ 20000) :
    Calls Tryz.prog 19 #[.slice A xs.length c] w fun e w' => e = .returned (.tuple #[.string (fmtR xs).1, .int .i64 (fmtR xs).2]) ∧ Below w.heap.size w w' := by
  have HX := Aside0.mk hx
  have HE := Aside0.mk hE
  clear hx hE
  generalize hxn : xs.length = n at *
  have hnA := Aside0.mk hxn
  clear hxn
  go_enter Tryz.func19, Tryz.ntmps19
  go_wp2_with (fail)
  go_loopw [4, 5] (fun v4 v5 wr => ∃ x : Int, v5 = .int .i64 x ∧ Aside0 (0 ≤ x ∧ x ≤ n) ∧ v4 = .string (ba (fmtL (xs.take x.toNat))) ∧ Aside0 (fmtBad (xs.take x.toNat) = 0 ∧ (fmtL (xs.take x.toNat)).length ≤ 6000000603 * x.toNat) ∧ Aside0 (Below w.heap.size w wr)) (fun _ v5 _ => n - (intOf v5).toNat)
  case atStart => exact ⟨0, rfl, ⟨by omega⟩, rfl, ⟨rfl, Nat.le_refl _⟩, ⟨Below.refl _ _⟩⟩
  case round =>
    obtain ⟨x, rfl, hxr, rfl, hok, hB⟩ := hrel
    by_cases hlt : x < n
    · have h0 : 0 ≤ x := hxr.out.1
      obtain ⟨ad, A4, c4, eA, x0, x1, x2, x3, x4, x5, x6, xl, xC⟩ := at_T27 (Kd.C_below HX.out hB.out) x h0 hlt
      subst eA
      have hxx : x = ((x.toNat : Nat) : Int) := by omega
      have hjl : x.toNat < xs.length := by rw [hnA.out]; omega
      have hew := HE.out (rd_T27 xs x) (by unfold rd_T27; rw [List.getD_eq_getElem?_getD, List.getElem?_eq_getElem hjl]; exact List.getElem_mem _)
      have hbd := Aside0.mk (fun h1 : (lineR (rd_T27 xs x)).2 ≠ 0 => fmtBad_at hjl hok.out.1 (by rw [← hxx]; exact h1))
      have hsn := Aside0.mk (fun h1 : (lineR (rd_T27 xs x)).2 = 0 => fmtBad_snoc hjl hok.out.1 (by rw [← hxx]; exact h1))
      have hsl : Aside0 (fmtL (xs.take (x.toNat + 1)) = fmtL (xs.take x.toNat) ++ fmtE (rd_T27 xs x)) := ⟨by rw [fmtL_snoc hjl, ← hxx]⟩
      rw [← hxx] at hbd
      have hlm := Aside0.mk hok.out.2
      have hsz := Aside0.mk (lineR_size _ hew)
      have HL := Aside0.mk (refLine_ok (rd_T27 xs x) A4 c4 wr hew xC)
      have hfe : Aside0 (fmtE (rd_T27 xs x) = (lineR (rd_T27 xs x)).1.data.toList ++ [10]) := ⟨rfl⟩
      clear xC xl hxx hjl hew hok
      generalize fmtL (xs.take x.toNat) = acc at *
      generalize rd_T27 xs x = E at *
      have hw64 : wrap64 (x + 1) = x + 1 := by unfold wrap64; omega
      go_wp2_with (fail)
      refine HL.out.mono ?_
      rintro e w5 ⟨rfl, hb5⟩
      have hB5 := Aside0.mk (hB.out.trans (hb5.mono hB.out.size))
      clear HL hb5 hB x0 x1 x2 x3 x4 x5 x6
      generalize lineR E = R at *
      obtain ⟨s, bad⟩ := R
      by_cases hbz : bad = 0
      · subst hbz
        have hs6 : s.size ≤ 6000000602 := hsz.out
        have hab : (ba acc).size ≤ 140000000000000 := by rw [ba_size]; have := hlm.out; omega
        have hq1 : (ba acc).size + s.size ≤ 9223372036854775807 := by omega
        have hq2 : (ba acc).size + s.size + 1 ≤ 9223372036854775807 := by omega
        have hcat : Aside0 (ba acc ++ s ++ (⟨#[10]⟩ : ByteArray) = ba (acc ++ fmtE E)) := ⟨by
          apply ba_ext
          rw [hfe.out]
          simp [ba_app, data_ba]⟩
        have hlb : Aside0 ((acc ++ fmtE E).length ≤ 6000000603 * (x.toNat + 1)) := ⟨by
          rw [hfe.out]
          have h1 : s.data.toList.length = s.size := (Lib.size_eq s).symm
          simp only [List.length_append, List.length_cons, List.length_nil]
          have := hlm.out
          omega⟩
        clear hab
        go_wp2_with (fail)
        go_roundw
        case rel =>
          refine ⟨x + 1, by go_num, ⟨by omega⟩, ?_, ⟨?_⟩, hB5⟩
          · rw [show (x + 1).toNat = x.toNat + 1 by omega, hsl.out, hcat.out]
          · rw [show (x + 1).toNat = x.toNat + 1 by omega, hsl.out]
            exact ⟨hsn.out trivial, hlb.out⟩
        case measure => simp [intOf]; omega
      · have hbz' : (bad != 0) = true := bne_iff_ne.mpr hbz
        have hfin : Aside0 (fmtR xs = (⟨#[]⟩, bad)) := ⟨by unfold fmtR; rw [hbd.out hbz, if_neg hbz]⟩
        go_wp2_with (fail)
        go_ret2
        exact ⟨by rw [hfin.out]; rfl, hB5.out⟩
    · have hxn : x = n := by have := hxr.out; omega
      subst hxn
      have hok2 := hok.out.1
      rw [Int.toNat_natCast, List.take_of_length_le (by rw [hnA.out]; exact Nat.le_refl _)] at hok2 ⊢
      have hfin : Aside0 (fmtR xs = (⟨(fmtL xs).toArray⟩, 0)) := ⟨if_pos hok2⟩
      clear hok2 hok
      go_wp2_with (fail)
      go_ret2
      exact ⟨by rw [hfin.out]; rfl, hB.out⟩
theorem prs_last (x : List UInt8) (acc : List S27) : prsL [x] acc = if x = [] then (acc, acc.length, 0) else ([], acc.length, 8) := by
  unfold prsL; rw [if_pos rfl]
set_option maxHeartbeats 4000000 in
set_option maxRecDepth 100000 in
theorem refParse_ok (s : ByteArray) (hs : s.size ≤ 2000) (w : World) :
    Calls Tryz.prog 20 #[.string s] w fun e w' => ∃ v, e = .returned (.tuple #[v, .int .i64 ((prsL (splitB 10 s.data.toList) []).2.1 : Nat), .int .i64 (prsL (splitB 10 s.data.toList) []).2.2]) ∧ Kd.R k27 27 w' w.heap.size (fun _ => True) v (prsL (splitB 10 s.data.toList) []).1 ∧ Below w.heap.size w w' := by
  have HC := PCut.whispererref06_Cut.calls (s.size + 1) s 10 _ w (cut_up s 10 (s.size + 1) (by omega) (by omega))
  have hpl := pieces_length 10 s
  have hps := pieces_size 10 s
  have hpe : pieces 10 s = (splitB 10 s.data.toList).map ba := rfl
  have hne := splitB_ne 10 s.data.toList
  rw [hpe] at HC hpl hps
  have hHC := Aside0.mk HC
  have hSz := Aside0.mk (fun p (hp : p ∈ splitB 10 s.data.toList) => show (ba p).size ≤ 2000 from Nat.le_trans (hps _ (List.mem_map_of_mem hp)) hs)
  rw [List.length_map] at hpl
  clear HC hpe hps
  generalize splitB 10 s.data.toList = Q at *
  generalize hRES : prsL Q [] = RES at *
  have hRA := Aside0.mk hRES
  clear hRES
  obtain ⟨m, hm⟩ : ∃ m, Q.length = m + 1 := by
    cases Q with
    | nil => exact absurd rfl hne
    | cons a r => exact ⟨r.length, rfl⟩
  have hmA := Aside0.mk hm
  have hm2 : m ≤ 2000 := by omega
  clear hne hpl
  go_enter Tryz.func20, Tryz.ntmps20
  go_wp2_with (fail)
  refine hHC.out.mono ?_
  rintro e w1 ⟨v, rfl, hR, hb1⟩
  obtain ⟨gs, cp, rfl, hgs, hgl, _⟩ := Kd.R_form hR (by rw [List.length_map, hm]; omega)
  obtain ⟨-, -, hC⟩ := Kd.R_reads' hR
  have hcl := Aside0.mk (cells_of hC rfl)
  have hBw := Aside0.mk hb1
  rw [List.length_map, hm]
  clear hR hC hb1 hHC hm
  go_wp2_with (fail)
  go_loopw [6, 7] (fun v6 v7 wr => ∃ (i : Nat) (acc : List S27), v7 = .int .i64 (i : Int) ∧ Aside0 (i ≤ m ∧ acc.length = i ∧ prsL (Q.drop i) acc = RES) ∧ Aside0 (Kd.R k27 27 wr w1.heap.size (fun _ => True) v6 acc) ∧ Aside0 (Below w1.heap.size w1 wr)) (fun _ v7 _ => m - (intOf v7).toNat)
  case atStart => exact ⟨0, [], rfl, ⟨Nat.zero_le _, rfl, hRA.out⟩, ⟨Kd.R_nil _ _ _ _ _⟩, ⟨Below.refl _ _⟩⟩
  case round =>
    obtain ⟨i, acc, rfl, hI, hR, hB⟩ := hrel
    obtain ⟨A6, c6, rfl⟩ := Kd.R_slice hR.out
    have hwm : wrap64 ((m : Int) + 1 - 1) = (m : Int) := by unfold wrap64; omega
    have hlast : ∃ y, Q[i]? = some y := by
      have h1 := hI.out.1
      have h2 := hmA.out
      exact ⟨_, List.getElem?_eq_getElem (by omega)⟩
    obtain ⟨p, hp⟩ := hlast
    have hdr : Q.drop i = p :: Q.drop (i + 1) := by
      obtain ⟨h1, h2⟩ := List.getElem?_eq_some_iff.1 hp
      rw [List.drop_eq_getElem_cons h1, h2]
    have hcell : wr.cell? ⟨gs, i, none⟩ = some (.string (ba p)) := by
      have h := hcl.out i (ba p) (by rw [List.getElem?_map, hp]; rfl)
      rw [Nat.zero_add] at h
      exact cell_stays h hB.out
    have hpz := hSz.out p (List.mem_of_getElem? hp)
    have hil : (i : Int) < (m : Int) + 1 := by have := hI.out.1; omega
    have hI2 : Aside0 (i ≤ m ∧ acc.length = i ∧ prsL (p :: Q.drop (i + 1)) acc = RES) := ⟨hI.out.1, hI.out.2.1, by rw [← hdr]; exact hI.out.2.2⟩
    clear hI hdr hp
    have hHR := refRead_ok (ba p) hpz
    rw [data_ba] at hHR
    have hRd := Aside0.mk hHR
    have hw64 : wrap64 ((i : Int) + 1) = ((i + 1 : Nat) : Int) := by have := hI2.out.1; unfold wrap64; omega
    clear hHR hpz
    by_cases hlt : i < m
    · have hltI : (i : Int) < (m : Int) := by omega
      have hr : Q.drop (i + 1) ≠ [] := fun e => by
        have h1 := congrArg List.length e
        rw [List.length_drop, hmA.out, List.length_nil] at h1
        omega
      by_cases hbad : (readS p).2 = 0
      · have hok := prs_ok p (Q.drop (i + 1)) hr hbad acc
        have hP2 : Aside0 (i + 1 ≤ m ∧ (acc ++ [(readS p).1]).length = i + 1 ∧ prsL (Q.drop (i + 1)) (acc ++ [(readS p).1]) = RES) := ⟨by omega, by rw [List.length_append, hI2.out.2.1]; rfl, hok.symm.trans hI2.out.2.2⟩
        have hac : acc.length ≤ 2000 := by have := hI2.out; omega
        rw [hbad] at hRd
        clear hok hbad hI2 hr
        generalize (readS p).1 = E at *
        go_wp2_with (fail)
        refine (hRd.out _).mono ?_
        rintro e w2 ⟨A2, c2, rfl, hR2, hc2, hb2⟩
        have hal : Below w2.heap.size w2 (w2.alloc (.cells (effV E A2 c2) 27)) := (Below.refl _ w2).alloc (Nat.le_refl _) _
        have hB2 := Aside0.mk (hB.out.trans (hb2.mono hB.out.size))
        have hB3 := Aside0.mk (hB2.out.trans (hal.mono hB2.out.size))
        have hR3 := Kd.R_below (Kd.R_lower hR2 hB.out.size) hal
        have hO3 := Kd.R_below (Kd.R_below hR.out hb2) hal
        have hM := Aside0.mk (And.intro hO3 (k27_mkM (w2.alloc (.cells (effV E A2 c2) 27)) w1.heap.size _ E (elt_apart hO3 hR3)))
        have hE := Aside0.mk (heap_alloc_new w2 (.cells (effV E A2 c2) 27))
        clear hR2 hR3 hO3 hb2 hB hR hB2 hal hRd
        go_upto_region 7 with (fail)
        generalize hW2 : w2.alloc (.cells _ 27) = W2 at *
        have m0 : W2.cell? ⟨w2.heap.size, 0, none⟩ = some (.int .i64 E.f0) := blk_cell hE.out 0
        have m1 : W2.cell? ⟨w2.heap.size, 1, none⟩ = some (.int .u32 E.f1.f0) := blk_cell hE.out 1
        have m2 : W2.cell? ⟨w2.heap.size, 2, none⟩ = some (.int .u8 E.f1.f1) := blk_cell hE.out 2
        have m3 : W2.cell? ⟨w2.heap.size, 3, none⟩ = some (.int .u8 E.f1.f2) := blk_cell hE.out 3
        have m4 : W2.cell? ⟨w2.heap.size, 4, none⟩ = some (.slice A2 E.f2.length c2) := blk_cell hE.out 4
        have m5 : W2.cell? ⟨w2.heap.size, 5, none⟩ = some (.int .i64 E.f3) := blk_cell hE.out 5
        have m6 : W2.cell? ⟨w2.heap.size, 6, none⟩ = some (.bool E.f4) := blk_cell hE.out 6
        clear hW2 hcell
        go_wp2_with ((with_reducible refine gate_builtin (b := .append) (xs := #[.tmp 30, .tmp 32]) rfl ?_); at_builtin; refine Kd.R_append k27 (w0 := w1) w1.heap.size rfl (.tmp 30) (.tmp 32) 29 27 _ 56 rfl Tryz.underlying29 infoE rfl (by decide) (by decide) _ acc E _ (fun _ => True) _ rfl rfl hM.out.2 (fun _ h => h) (fun _ _ => trivial) hM.out.1 hB3.out hB3.out.size (by omega) ?_; intro v6 w6 ho6 hb6 hg6 hat6)
        go_roundw
        case rel => exact ⟨i + 1, acc ++ [E], by go_num, hP2, ⟨ho6⟩, ⟨hb6⟩⟩
        case measure => simp [intOf]; omega
      · have hf : Aside0 (RES = ([], i, 8)) := ⟨by rw [← hI2.out.2.2, prs_bad p _ hr hbad acc, hI2.out.2.1]⟩
        have hbz : ((readS p).2 != 0) = true := bne_iff_ne.mpr hbad
        clear hI2 hbad hr
        generalize (readS p).2 = bd at *
        go_wp2_with (fail)
        refine (hRd.out _).mono ?_
        rintro e w2 ⟨A2, c2, rfl, _, _, hb2⟩
        have hB2 := Aside0.mk (hBw.out.trans ((hB.out.trans (hb2.mono hB.out.size)).mono hBw.out.size))
        clear hb2 hB
        go_wp2_with (fail)
        go_ret3
        rw [hf.out]
        exact ⟨_, rfl, Kd.R_nil _ _ _ _ _, hB2.out.alloc hB2.out.size _⟩
    · obtain rfl : i = m := by have := hI2.out.1; omega
      have hnil : Q.drop (i + 1) = [] := List.drop_eq_nil_of_le (by rw [hmA.out]; omega)
      have hpl := prs_last p acc
      rw [← hnil, hI2.out.2.2, hI2.out.2.1] at hpl
      have hBf := Aside0.mk (hBw.out.trans (hB.out.mono hBw.out.size))
      have hRf := Aside0.mk (Kd.R_lower hR.out hBw.out.size)
      clear hI2 hnil hRd hR hB
      by_cases hp0 : p = []
      · rw [if_pos hp0] at hpl
        have hem : (ba p).toList.isEmpty = true := by rw [ByteArray.toList_eq, data_ba, hp0]; rfl
        have hf := Aside0.mk hpl
        clear hpl hp0
        generalize ba p = S0 at *
        go_wp2_with (fail)
        go_ret3
        rw [hf.out]
        exact ⟨_, rfl, hRf.out, hBf.out⟩
      · rw [if_neg hp0] at hpl
        have hem : (ba p).toList.isEmpty = false := by
          rw [ByteArray.toList_eq, data_ba]
          cases p
          · exact absurd rfl hp0
          · rfl
        have hf := Aside0.mk hpl
        clear hpl hp0
        generalize ba p = S0 at *
        go_wp2_with (fail)
        go_ret3
        rw [hf.out]
        exact ⟨_, rfl, Kd.R_nil _ _ _ _ _, hBf.out⟩
end Go.Proofs.YtbiogabekhegaaaGreatDoor.Hand
