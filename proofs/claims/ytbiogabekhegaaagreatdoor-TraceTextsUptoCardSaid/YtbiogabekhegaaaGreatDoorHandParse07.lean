/- trace.Parse. -/
import Derived.Test.YtbiogabekhegaaaGreatDoorHandWritten07
import Derived.Test.YtbiogabekhegaaaGreatDoorHandTrRead
import Derived.Test.YtbiogabekhegaaaGreatDoorHandPlainA7
import Derived.OwnWalk
namespace Go.Proofs.YtbiogabekhegaaaGreatDoor.Hand
open Go.RowKit Go.Proofs.YtbiogabekhegaaaGreatDoorW.PrintWords Go.Proofs.YtbiogabekhegaaaGreatDoorW.PrintLast
open Go.Proofs.YtbiogabekhegaaaGreatDoor.PWritten (S27 S25 k27 z27 rd_T27 at_T27 k27_mk k27_mkM)
set_option linter.unusedVariables false
set_option linter.unusedSimpArgs false
theorem infoE : (Tryz.prog.info? 27).map (fun i => (i.zero, i.size, i.bytes)) = some (some (.agg #[.int .i64 0, .int .u32 0, .int .u8 0, .int .u8 0, .slice none 0 0, .int .i64 0, .bool false]), 7, 56) := by kernel_rfl
def effS (x : Eff) : S27 := ⟨x.k, ⟨x.fl, x.mn, x.tm⟩, x.d, x.n, x.ok⟩
def readS (l : List UInt8) : S27 × Int := match pieces 32 (ba l) with
  | [] => (effS Eff.zero, 8)
  | w0 :: r => (effS (readR w0 r).1, (readR w0 r).2)
def prsL : List (List UInt8) → List S27 → List S27 × Nat × Int
  | [], acc => (acc, acc.length, 0)
  | x :: r, acc => if r = [] then (if x = [] then (acc, acc.length, 0) else ([], acc.length, 8)) else if (readS x).2 = 0 then prsL r (acc ++ [(readS x).1]) else ([], acc.length, 8)
def RdS (w : World) (x : S27) (er : Int) (e : Ending) (w' : World) : Prop := ∃ A c, e = .returned (.tuple #[.agg (effV x A c), .int .i64 er]) ∧ Kd.R (Kd.int .u8) 5 w' w.heap.size (fun _ => True) (.slice A x.f2.length c) x.f2 ∧ x.f2.length ≤ c ∧ Below w.heap.size w w'
theorem read_ok (s : ByteArray) (hs : s.size ≤ 30000) (w : World) (HT : TabA w) : Calls Tryz.prog 13 #[.string s] w (RdS w (readS s.data.toList).1 (readS s.data.toList).2) := by
  have hp : ∃ w0 r, pieces 32 s = w0 :: r := by
    unfold pieces
    rw [split_ne]
    exact ⟨_, _, rfl⟩
  obtain ⟨w0, r, hp⟩ := hp
  have hr : readS s.data.toList = (effS (readR w0 r).1, (readR w0 r).2) := by
    unfold readS
    rw [ba_data, hp]
  rw [hr]
  refine (read_core s w0 r hs hp w HT).mono fun e w' h => ?_
  obtain ⟨v, rfl, hR, hb⟩ := h
  obtain ⟨A, c, rfl⟩ := Kd.R_slice hR
  have hc := (Kd.R_reads' hR).2.1
  exact ⟨A, c, rfl, hR, by first | exact hc | omega, hb⟩
theorem elt_apart {W : World} {base : Nat} {v5 v : Value} {acc : List S27} {L : List Int} (h : Kd.R k27 27 W base (fun _ => True) v5 acc) (g : Kd.R (Kd.int .u8) 5 W base (fun _ => True) v L) : Kd.R (Kd.int .u8) 5 W base (fun k => True ∧ some k ≠ v5.ownBlock) v L :=
  Kd.R_mono (Kd.R_bound g) (fun k hk => ⟨trivial, by
    obtain ⟨_, _, _, q, hq, cells, hc⟩ := hk
    have hq5 : q = 5 := by
      rcases List.mem_cons.1 hq with e | e
      · exact e
      · exact absurd e (by simp [Kd.int, Kd.scalar])
    subst hq5
    exact Kd.R_ne h hc (by decide)⟩)
theorem cell_drewN {w : World} {a : Addr} {v : Value} (n : Nat) (h : w.cell? a = some v) : (w.drewN n).cell? a = some v := h
theorem below_drewN {B : Nat} {w W : World} (h : Below B w W) (n : Nat) : Below B w (W.drewN n) := ⟨h.os, h.tape, h.output, h.size, h.block⟩
theorem prs_one (x : List UInt8) (h : x ≠ []) (acc : List S27) : prsL [x] acc = ([], acc.length, 8) := by
  unfold prsL; rw [if_pos rfl, if_neg h]
theorem prs_bad (x : List UInt8) (r : List (List UInt8)) (hr : r ≠ []) (h : (readS x).2 ≠ 0) (acc : List S27) : prsL (x :: r) acc = ([], acc.length, 8) := by
  conv => lhs; unfold prsL
  rw [if_neg hr, if_neg h]
theorem prs_ok (x : List UInt8) (r : List (List UInt8)) (hr : r ≠ []) (h : (readS x).2 = 0) (acc : List S27) : prsL (x :: r) acc = prsL r (acc ++ [(readS x).1]) := by
  conv => lhs; unfold prsL
  rw [if_neg hr, if_pos h]
theorem splitB_ne (c : UInt8) (l : List UInt8) : splitB c l ≠ [] := by rw [split_ne]; exact List.cons_ne_nil _ _
set_option maxHeartbeats 8000000 in
set_option maxRecDepth 100000 in
theorem parse7_ok (s : ByteArray) (hs : s.size ≤ 4000000000) (hl : ∀ p ∈ splitB 10 s.data.toList, p.length ≤ 30000) (w : World) (HT : TabA w) :
    Calls Tryz.prog 18 #[.string s] w fun e w' => ∃ v, e = .returned (.tuple #[v, .int .i64 ((prsL (splitB 10 s.data.toList) []).2.1 : Nat), .int .i64 (prsL (splitB 10 s.data.toList) []).2.2]) ∧ Kd.R k27 27 w' w.heap.size (fun _ => True) v (prsL (splitB 10 s.data.toList) []).1 ∧ Below w.heap.size w w' := by
  have hT := Aside0.mk HT
  have hlA := Aside0.mk hl
  have hsA := Aside0.mk (show s.data.toList.length ≤ 4000000000 by rw [← Lib.size_eq]; exact hs)
  clear HT hl hs
  generalize hRES : prsL (splitB 10 s.data.toList) [] = RES at *
  have hRA := Aside0.mk hRES
  clear hRES
  go_enter Tryz.func18, Tryz.ntmps18
  go_wp2_with (fail)
  go_loopw [0, 5] (fun v0 v5 wr => ∃ (l : List UInt8) (acc : List S27), v0 = .string (ba l) ∧ Aside0 (prsL (splitB 10 l) acc = RES ∧ (∀ p ∈ splitB 10 l, p.length ≤ 30000) ∧ acc.length + l.length ≤ 4000000000) ∧ Aside0 (Kd.R k27 27 wr w.heap.size (fun _ => True) v5 acc) ∧ Aside0 (Below w.heap.size w wr)) (fun v0 _ _ => match v0 with | .string s => s.size | _ => 0)
  case atStart => exact ⟨s.data.toList, [], by rw [ba_data], ⟨hRA.out, hlA.out, by have := hsA.out; simpa using this⟩, ⟨Kd.R_nil _ _ _ _ _⟩, ⟨Below.refl _ _⟩⟩
  case round =>
    obtain ⟨l, acc, rfl, hP, hR, hB⟩ := hrel
    by_cases hl0 : l = []
    · subst hl0
      have hf : Aside0 (RES = (acc, acc.length, 0)) := ⟨hP.out.1.symm⟩
      obtain ⟨A5, c5, rfl⟩ := Kd.R_slice hR.out
      have hem : (ba []).toList.isEmpty = true := by rw [ByteArray.toList_eq, data_ba]; rfl
      clear hP
      generalize ba [] = S0 at *
      go_wp2_with (fail)
      go_ret3
      rw [hf.out]
      exact ⟨_, rfl, hR.out, hB.out⟩
    · have hem : (ba l).toList.isEmpty = false := by
        rw [ByteArray.toList_eq, data_ba]
        cases l
        · exact absurd rfl hl0
        · rfl
      obtain ⟨A5, c5, rfl⟩ := Kd.R_slice hR.out
      have hbs : (ba l).size ≤ 4000000000 := by rw [Lib.size_eq, data_ba]; have := hP.out.2.2; omega
      obtain ⟨m, hm⟩ := (hT.out.below hB.out).mx
      have HC := Tryz.strings_Cut (ba l) ⟨#[10]⟩ m wr (by omega) hm
      rw [data_ba, show (⟨#[10]⟩ : ByteArray).data.toList = [10] from rfl] at HC
      by_cases hin : 10 ∈ l
      · obtain ⟨p, r, rfl, hpn⟩ : ∃ p r, l = p ++ 10 :: r ∧ (10 : UInt8) ∉ p := List.eq_append_cons_of_mem hin
        rw [cut_at 10 p r hpn] at HC
        have hsp := split_app 10 p r hpn
        rw [hsp] at hP
        have hll : (ba p).size ≤ 30000 := by rw [Lib.size_eq, data_ba]; exact hP.out.2.1 p List.mem_cons_self
        have HR := fun W hb => read_ok (ba p) hll W (hT.out.below hb)
        rw [data_ba] at HR
        clear hin hl0 hsp hll hm
        have hCA := Aside0.mk (And.intro HC HR)
        clear HC HR
        by_cases hbad : (readS p).2 = 0
        · have hok := prs_ok p (splitB 10 r) (splitB_ne 10 r) hbad acc
          have hP2 : Aside0 (prsL (splitB 10 r) (acc ++ [(readS p).1]) = RES ∧ (∀ q ∈ splitB 10 r, q.length ≤ 30000) ∧ (acc ++ [(readS p).1]).length + r.length ≤ 4000000000) := ⟨hok.symm.trans hP.out.1, fun q hq => hP.out.2.1 q (List.mem_cons_of_mem _ hq), by have := hP.out.2.2; simp only [List.length_append, List.length_cons, List.length_nil] at this ⊢; omega⟩
          rw [hbad] at hCA
          have hac : acc.length ≤ 4000000000 := by have := hP.out.2.2; omega
          have hrs : Aside0 ((ba r).size < (ba (p ++ 10 :: r)).size) := ⟨by rw [Lib.size_eq, Lib.size_eq, data_ba, data_ba, List.length_append, List.length_cons]; omega⟩
          clear hP hok hbad
          generalize (readS p).1 = E at *
          go_wp2_with (fail)
          refine hCA.out.1.mono ?_
          rintro e w1 ⟨rfl, n, rfl⟩
          have hbn := Aside0.mk (below_drewN hB.out n)
          have hRn := Aside0.mk (Kd.R_below hR.out (below_drewN (Below.refl _ wr) n))
          go_wp2_with (fail)
          refine (hCA.out.2 _ hbn.out).mono ?_
          rintro e w2 ⟨A2, c2, rfl, hR2, hc2, hb2⟩
          have hal : Below w2.heap.size w2 (w2.alloc (.cells (effV E A2 c2) 27)) := (Below.refl _ w2).alloc (Nat.le_refl _) _
          have hB2 := Aside0.mk (hbn.out.trans (hb2.mono hbn.out.size))
          have hB3 := Aside0.mk (hB2.out.trans (hal.mono hB2.out.size))
          have hR3 := Kd.R_below (Kd.R_lower hR2 hbn.out.size) hal
          have hO3 := Kd.R_below (Kd.R_below hRn.out hb2) hal
          have hM := Aside0.mk (And.intro hO3 (k27_mkM (w2.alloc (.cells (effV E A2 c2) 27)) w.heap.size _ E (elt_apart hO3 hR3)))
          have hE := Aside0.mk (heap_alloc_new w2 (.cells (effV E A2 c2) 27))
          clear hR2 hR3 hO3 hb2 hbn hB hRn hR hB2 hal
          go_upto_region 7 with (fail)
          generalize hW2 : w2.alloc (.cells _ 27) = W2 at *
          have m0 : W2.cell? ⟨w2.heap.size, 0, none⟩ = some (.int .i64 E.f0) := blk_cell hE.out 0
          have m1 : W2.cell? ⟨w2.heap.size, 1, none⟩ = some (.int .u32 E.f1.f0) := blk_cell hE.out 1
          have m2 : W2.cell? ⟨w2.heap.size, 2, none⟩ = some (.int .u8 E.f1.f1) := blk_cell hE.out 2
          have m3 : W2.cell? ⟨w2.heap.size, 3, none⟩ = some (.int .u8 E.f1.f2) := blk_cell hE.out 3
          have m4 : W2.cell? ⟨w2.heap.size, 4, none⟩ = some (.slice A2 E.f2.length c2) := blk_cell hE.out 4
          have m5 : W2.cell? ⟨w2.heap.size, 5, none⟩ = some (.int .i64 E.f3) := blk_cell hE.out 5
          have m6 : W2.cell? ⟨w2.heap.size, 6, none⟩ = some (.bool E.f4) := blk_cell hE.out 6
          clear hW2
          go_wp2_with ((with_reducible refine gate_builtin (b := .append) (xs := #[.tmp 32, .tmp 34]) rfl ?_); at_builtin; refine Kd.R_append k27 (w0 := w) w.heap.size rfl (.tmp 32) (.tmp 34) 29 27 _ 56 rfl Tryz.underlying29 infoE rfl (by decide) (by decide) _ acc E _ (fun _ => True) _ rfl rfl hM.out.2 (fun _ h => h) (fun _ _ => trivial) hM.out.1 hB3.out hB3.out.size (by omega) ?_; intro v6 w6 ho6 hb6 hg6 hat6)
          go_roundw
          case rel => exact ⟨r, acc ++ [E], rfl, hP2, ⟨ho6⟩, ⟨hb6⟩⟩
          case measure => exact hrs.out
        · have hf : Aside0 (RES = ([], acc.length, 8)) := ⟨by rw [← hP.out.1]; exact prs_bad p _ (splitB_ne 10 r) hbad acc⟩
          have hbz : ((readS p).2 != 0) = true := bne_iff_ne.mpr hbad
          clear hP hbad
          generalize (readS p).2 = bd at *
          go_wp2_with (fail)
          refine hCA.out.1.mono ?_
          rintro e w1 ⟨rfl, n, rfl⟩
          have hbn := Aside0.mk (below_drewN hB.out n)
          go_wp2_with (fail)
          refine (hCA.out.2 _ hbn.out).mono ?_
          rintro e w2 ⟨A2, c2, rfl, _, _, hb2⟩
          have hB2 := Aside0.mk (hbn.out.trans (hb2.mono hbn.out.size))
          clear hb2 hbn hB
          go_wp2_with (fail)
          go_ret3
          rw [hf.out]
          exact ⟨_, rfl, Kd.R_nil _ _ _ _ _, hB2.out.alloc hB2.out.size _⟩
      · rw [cut_none 10 l hin] at HC
        have hsp := split_none 10 l hin
        have hf : Aside0 (RES = ([], acc.length, 8)) := ⟨by rw [← hP.out.1, hsp]; exact prs_one l hl0 acc⟩
        have hll : (ba l).size ≤ 30000 := by rw [Lib.size_eq, data_ba]; exact hP.out.2.1 l (by rw [hsp]; exact List.mem_singleton.2 rfl)
        have hlA := Aside0.mk hll
        have HR := fun W hb => read_ok (ba l) hll W (hT.out.below hb)
        rw [data_ba] at HR
        clear hP hin hl0 hsp hll hm
        have hCA := Aside0.mk (And.intro HC HR)
        clear HC HR
        go_wp2_with (fail)
        refine hCA.out.1.mono ?_
        rintro e w1 ⟨rfl, n, rfl⟩
        have hbn := Aside0.mk (below_drewN hB.out n)
        go_wp2_with (fail)
        refine (hCA.out.2 _ hbn.out).mono ?_
        rintro e w2 ⟨A2, c2, rfl, _, _, hb2⟩
        have hB2 := Aside0.mk (hbn.out.trans (hb2.mono hbn.out.size))
        clear hb2 hbn hB
        go_wp2_with (fail)
        go_ret3
        rw [hf.out]
        exact ⟨_, rfl, Kd.R_nil _ _ _ _ _, hB2.out.alloc hB2.out.size _⟩
end Go.Proofs.YtbiogabekhegaaaGreatDoor.Hand
