/- TraceLines walked. -/
import Derived.Test.YtbiogabekhegaaaGreatDoorHandRefLine
import Derived.Test.YtbiogabekhegaaaGreatDoorHandRdR07
import Derived.Test.YtbiogabekhegaaaGreatDoorHandSamR07
import Derived.Test.YtbiogabekhegaaaGreatDoorHandEffs07
namespace Go.Proofs.YtbiogabekhegaaaGreatDoor.Hand
open Go.RowKit Go.Proofs.YtbiogabekhegaaaGreatDoorW.PrintWords Go.Proofs.YtbiogabekhegaaaGreatDoorW.PrintLast
open Go.Proofs.YtbiogabekhegaaaGreatDoor.PWritten (S27 S25 k27 z27 rd_T27 at_T27 k27_mk)
set_option linter.unusedVariables false
set_option linter.unusedSimpArgs false
set_option maxHeartbeats 4000000 in
set_option maxRecDepth 100000 in
theorem refLine_out (x : S27) (A : Option Addr) (c : Nat) (w : World) (hk : x.f0 < 0 ∨ 7 ≤ x.f0) :
    Calls Tryz.prog 12 #[.agg (effV x A c)] w fun e w' => e = .returned (.tuple #[.string (lineR x).1, .int .i64 (lineR x).2]) ∧ Below w.heap.size w w' := by
  have hr : lineR x = (⟨#[]⟩, 9) := by unfold lineR; rw [if_pos hk]
  rw [hr]
  have hb0 := Aside0.mk ((Below.refl _ w).alloc (Nat.le_refl _) (.cells (effV x A c) 27))
  clear hr
  obtain ⟨xk, ⟨xf, xm, xt⟩, xd, xn, xo⟩ := x
  simp only at hk
  by_cases h1 : xk < 0
  · clear hk
    go_enter Tryz.func12, Tryz.ntmps12
    go_wp2_with (fail)
    go_ret2
    exact ⟨rfl, hb0.out⟩
  · have h2 : (6 : Int) < xk := by omega
    clear hk
    go_enter Tryz.func12, Tryz.ntmps12
    go_wp2_with (fail)
    go_ret2
    exact ⟨rfl, hb0.out⟩
theorem refLine_ok (x : S27) (A : Option Addr) (c : Nat) (w : World) (hx : EffWr x) (hC : Kd.C (Kd.int .u8) w A x.f2.length x.f2) :
    Calls Tryz.prog 12 #[.agg (effV x A c)] w fun e w' => e = .returned (.tuple #[.string (lineR x).1, .int .i64 (lineR x).2]) ∧ Below w.heap.size w w' := by
  by_cases hk : x.f0 < 0 ∨ 7 ≤ x.f0
  · exact refLine_out x A c w hk
  · obtain h | h | h | h | h | h | h : x.f0 = ((0 : Nat) : Int) ∨ x.f0 = ((1 : Nat) : Int) ∨ x.f0 = ((2 : Nat) : Int) ∨ x.f0 = ((3 : Nat) : Int) ∨ x.f0 = ((4 : Nat) : Int) ∨ x.f0 = ((5 : Nat) : Int) ∨ x.f0 = ((6 : Nat) : Int) := by omega
    · exact refLine_0 x A c w h hx hC
    · exact refLine_1 x A c w h hx hC
    · exact refLine_2 x A c w h hx hC
    · exact refLine_3 x A c w h hx hC
    · exact refLine_4 x A c w h hx hC
    · exact refLine_5 x A c w h hx hC
    · exact refLine_6 x A c w h hx hC
theorem one_row {W : World} {g : Nat} {x : S27} {A : Option Addr} {c : Nat} (H : W.heap[g]? = some (.cells (effV x A c) 27 (0, 0))) (hl : x.f2.length ≤ c) (hC : Kd.C (Kd.int .u8) W A x.f2.length x.f2) : Kd.C k27 W (some ⟨g, 0, none⟩) [x].length [x] := by
  refine ⟨rfl, by simp, fun _ => ⟨⟨g, 0, none⟩, rfl, fun j p hj => ?_⟩⟩
  have hj0 : j = 0 := by
    have := (List.getElem?_eq_some_iff.1 hj).1
    simpa using this
  subst hj0
  obtain rfl : x = p := Option.some.inj hj
  refine ⟨_, rfl, k27_mk W x hl hC, fun i u hu => ?_⟩
  have ha : (⟨g, 0, none⟩ : Addr).add (0 * k27.sz + i) = ⟨g, i, none⟩ := by
    rw [Nat.zero_mul, Nat.zero_add]
    unfold Addr.add
    split
    · rename_i h0; rw [h0]
    · show (⟨g, 0 + i, none⟩ : Addr) = _; rw [Nat.zero_add]
  rw [ha, blk_cell H i]
  rw [← hu]
  simp [effV]
theorem sameL_one (x : S27) : sameL [x] [x] = true := sameL_yes rfl (fun j hj => by
  have : j = 0 := by simpa using hj
  subst this
  exact same_refl _)
set_option maxHeartbeats 4000000 in
set_option maxRecDepth 100000 in
theorem TraceLines_walk (E : S27) (A : Option Addr) (c : Nat) (s : ByteArray) (w : World) (HT : TabA w) (hc : E.f2.length ≤ c) (hC : Kd.C (Kd.int .u8) w A E.f2.length E.f2) (hwf : EffWf E) (hsz : s.size ≤ 140737488351232) :
    Calls Tryz.prog 4 #[.agg (effV E A c), .string s] w fun e w' => e = .returned (.bool true) ∧ Below w.heap.size w w' := by
  have hT := Aside0.mk HT
  have hb0 := Aside0.mk ((Below.refl _ w).alloc (Nat.le_refl _) (.cells (effV E A c) 27))
  have hE0 := Aside0.mk (heap_alloc_new w (.cells (effV E A c) 27))
  have hCA := Aside0.mk (Kd.C_below hC hb0.out)
  have hcA := Aside0.mk hc
  have hfA := Aside0.mk hwf
  clear HT hC hc hwf
  by_cases hbig : 1000 < (E.f2.length : Int) ∨ 1000 < (s.size : Int)
  · have hA := fun W h => alive_ok W h
    by_cases h1 : 1000 < (E.f2.length : Int)
    · clear hbig
      go_enter Tryz.func4, Tryz.ntmps4
      go_wp2_with (fail)
      refine (hA _ (hT.out.below hb0.out)).mono ?_
      rintro e w2 ⟨rfl, hb2⟩
      have hB2 := Aside0.mk (hb0.out.trans (hb2.mono hb0.out.size))
      clear hb2
      go_wp2_with (fail)
      go_ret
      exact ⟨rfl, hB2.out⟩
    · have h2 : 1000 < (s.size : Int) := by omega
      clear hbig
      go_enter Tryz.func4, Tryz.ntmps4
      go_wp2_with (fail)
      refine (hA _ (hT.out.below hb0.out)).mono ?_
      rintro e w2 ⟨rfl, hb2⟩
      have hB2 := Aside0.mk (hb0.out.trans (hb2.mono hb0.out.size))
      clear hb2
      go_wp2_with (fail)
      go_ret
      exact ⟨rfl, hB2.out⟩
  · have hd1 : (E.f2.length : Int) ≤ 1000 := by omega
    have hd2 : (s.size : Int) ≤ 1000 := by omega
    have hwr := Aside0.mk (hfA.out.wr (by omega))
    have hs2 := Aside0.mk (show s.size ≤ 1000 by omega)
    clear hbig
    go_enter Tryz.func4, Tryz.ntmps4
    go_wp2_with (fail)
    refine (Line_ok E A c _ (hT.out.below hb0.out) ⟨hcA.out, hCA.out, hwr.out.i, hwr.out.d, hwr.out.n0, hwr.out.n1, by omega⟩).mono ?_
    rintro e w2 ⟨rfl, hb2⟩
    have hB2 := Aside0.mk (hb0.out.trans (hb2.mono hb0.out.size))
    have hE2 := Aside0.mk ((hb2.block _ (blk_lt hE0.out)).trans hE0.out)
    have hC2 := Aside0.mk (Kd.C_below hCA.out hb2)
    obtain ⟨m0, m1, m2, m3, m4, m5, m6⟩ := effV_cells hE2.out
    generalize hLR : lineR E = LR at *
    have hLA := Aside0.mk hLR
    clear hb2 hb0 hE0 hCA hLR
    go_wp2_with (fail)
    refine (refLine_ok E A c _ hwr.out hC2.out).mono ?_
    rintro e w3 ⟨rfl, hb3⟩
    rw [hLA.out]
    have hB3 := Aside0.mk (hB2.out.trans (hb3.mono hB2.out.size))
    clear hb3 hB2 hE2 hC2 m0 m1 m2 m3 m4 m5 m6 hLA
    go_wp2_with (fail)
    refine (read_ok s (by have := hs2.out; omega) _ (hT.out.below hB3.out)).mono ?_
    rintro e w4 ⟨A4, c4, rfl, hR4, hc4, hb4⟩
    have hRR := Aside0.mk (refRead_ok s (by have := hs2.out; omega))
    generalize readS s.data.toList = RS at *
    obtain ⟨X, er⟩ := RS
    simp only at hR4 hc4 hRR
    have hal4 : Below w4.heap.size w4 (w4.alloc (.cells (effV X A4 c4) 27)) := (Below.refl _ _).alloc (Nat.le_refl _) _
    have hB4 := Aside0.mk (hB3.out.trans (hb4.mono hB3.out.size))
    have hX4 := Aside0.mk (heap_alloc_new w4 (.cells (effV X A4 c4) 27))
    have hQ4 := Aside0.mk (Kd.C_below (Kd.R_reads' hR4).2.2 hal4)
    have hBa := Aside0.mk (hB4.out.trans (hal4.mono hB4.out.size))
    have hcx := Aside0.mk hc4
    clear hR4 hc4 hb4 hal4 hB3
    go_upto_region 6 with (fail)
    generalize w4.alloc (.cells _ 27) = W5 at *
    generalize w4.heap.size = gx at *
    go_wp2_with (fail)
    refine (hRR.out _).mono ?_
    rintro e w6 ⟨A6, c6, rfl, hR6, hc6, hb6⟩
    have hal6 : Below w6.heap.size w6 (w6.alloc (.cells (effV X A6 c6) 27)) := (Below.refl _ _).alloc (Nat.le_refl _) _
    have hB6 := Aside0.mk (hBa.out.trans (hb6.mono hBa.out.size))
    have hY6 := Aside0.mk (heap_alloc_new w6 (.cells (effV X A6 c6) 27))
    have hQy := Aside0.mk (Kd.C_below (Kd.R_reads' hR6).2.2 hal6)
    have hX6 := Aside0.mk ((hal6.block _ (Nat.lt_of_lt_of_le (blk_lt hX4.out) hb6.size)).trans ((hb6.block _ (blk_lt hX4.out)).trans hX4.out))
    have hQx := Aside0.mk (Kd.C_below (Kd.C_below hQ4.out hb6) hal6)
    have hBb := Aside0.mk (hB6.out.trans (hal6.mono hB6.out.size))
    have hcy := Aside0.mk hc6
    clear hR6 hc6 hb6 hal6 hBa hB6 hRR hQ4 hX4 hB4
    go_upto_region 7 with (fail)
    generalize w6.alloc (.cells _ 27) = W7 at *
    generalize w6.heap.size = gy at *
    go_wp2_with (fail)
    refine (alive_ok _ (hT.out.below hBb.out)).mono ?_
    rintro e w8 ⟨rfl, hb8⟩
    have hB8 := Aside0.mk (hBb.out.trans (hb8.mono hBb.out.size))
    have hX8 := Aside0.mk ((hb8.block _ (blk_lt hX6.out)).trans hX6.out)
    have hY8 := Aside0.mk ((hb8.block _ (blk_lt hY6.out)).trans hY6.out)
    have hQx8 := Aside0.mk (Kd.C_below hQx.out hb8)
    have hQy8 := Aside0.mk (Kd.C_below hQy.out hb8)
    clear hb8 hBb hX6 hY6 hQx hQy
    obtain ⟨x0, x1, x2, x3, x4, x5, x6⟩ := effV_cells hX8.out
    have z0 : ∀ o : Obj, (w8.alloc o).cell? ⟨gy, 0, none⟩ = some (.int .i64 X.f0) := fun o => blk_cell ((heap_alloc_old w8 o (blk_lt hY8.out)).trans hY8.out) 0
    have z1 : ∀ o : Obj, (w8.alloc o).cell? ⟨gy, 1, none⟩ = some (.int .u32 X.f1.f0) := fun o => blk_cell ((heap_alloc_old w8 o (blk_lt hY8.out)).trans hY8.out) 1
    have z2 : ∀ o : Obj, (w8.alloc o).cell? ⟨gy, 2, none⟩ = some (.int .u8 X.f1.f1) := fun o => blk_cell ((heap_alloc_old w8 o (blk_lt hY8.out)).trans hY8.out) 2
    have z3 : ∀ o : Obj, (w8.alloc o).cell? ⟨gy, 3, none⟩ = some (.int .u8 X.f1.f2) := fun o => blk_cell ((heap_alloc_old w8 o (blk_lt hY8.out)).trans hY8.out) 3
    have z4 : ∀ o : Obj, (w8.alloc o).cell? ⟨gy, 4, none⟩ = some (.slice A6 X.f2.length c6) := fun o => blk_cell ((heap_alloc_old w8 o (blk_lt hY8.out)).trans hY8.out) 4
    have z5 : ∀ o : Obj, (w8.alloc o).cell? ⟨gy, 5, none⟩ = some (.int .i64 X.f3) := fun o => blk_cell ((heap_alloc_old w8 o (blk_lt hY8.out)).trans hY8.out) 5
    have z6 : ∀ o : Obj, (w8.alloc o).cell? ⟨gy, 6, none⟩ = some (.bool X.f4) := fun o => blk_cell ((heap_alloc_old w8 o (blk_lt hY8.out)).trans hY8.out) 6
    have a1 : Below w8.heap.size w8 ((w8.alloc (.cells (effV X A4 c4) 27)).alloc (.cells (effV X A6 c6) 27)) := ((Below.refl _ _).alloc (Nat.le_refl _) _).alloc (by simp) _
    have hRx : ((w8.alloc (.cells (effV X A4 c4) 27)).alloc (.cells (effV X A6 c6) 27)).heap[w8.heap.size]? = some (.cells (effV X A4 c4) 27 (0, 0)) := (heap_alloc_old _ _ (by simp)).trans (heap_alloc_new w8 _)
    have hRy : ((w8.alloc (.cells (effV X A4 c4) 27)).alloc (.cells (effV X A6 c6) 27)).heap[w8.heap.size + 1]? = some (.cells (effV X A6 c6) 27 (0, 0)) := by
      rw [show w8.heap.size + 1 = (w8.alloc (.cells (effV X A4 c4) 27)).heap.size by simp]
      exact heap_alloc_new _ _
    have HS := refSame_ok [X] [X] _ _ 1 1 _ (one_row hRx hcx.out (Kd.C_below hQx8.out a1)) (one_row hRy hcy.out (Kd.C_below hQy8.out a1))
    rw [sameL_one] at HS
    have hSA := Aside0.mk HS
    have hB9 := Aside0.mk (hB8.out.trans (a1.mono hB8.out.size))
    clear HS a1 hRx hRy
    go_wp2_with (fail)
    refine hSA.out.mono ?_
    rintro e w9 ⟨rfl, hb9⟩
    have hBz := Aside0.mk (hB9.out.trans (hb9.mono hB9.out.size))
    clear hb9
    go_wp2_with (fail)
    go_ret
    exact ⟨rfl, hBz.out⟩
end Go.Proofs.YtbiogabekhegaaaGreatDoor.Hand
