/- trace.Same: slices.EqualFunc at effects. -/
import Derived.Test.YtbiogabekhegaaaGreatDoorPsamex2
import Derived.Test.YtbiogabekhegaaaGreatDoorPWrittenx0
import Derived.LoopTactic
import Derived.BigQuiet
import Derived.Deep.QuietTactic
namespace Go.Proofs.YtbiogabekhegaaaGreatDoor.Hand
open Go.RowKit Go.Proofs.YtbiogabekhegaaaGreatDoorW.PrintWords Go.Proofs.YtbiogabekhegaaaGreatDoorW.PrintLast
open Go.Proofs.YtbiogabekhegaaaGreatDoor.PWritten (S27 S25 k27 z27 rd_T27 at_T27 k27_mk)
set_option linter.unusedVariables false
set_option linter.unusedSimpArgs false
def sameE (a b : S27) : Bool := decide (a.f0 = b.f0) && (a.f1.f0 == b.f1.f0 && (a.f1.f1 == b.f1.f1 && (a.f1.f2 == b.f1.f2))) && decide (a.f3 = b.f3) && (a.f4 == b.f4) && ((strOfNums a.f2).toList == (strOfNums b.f2).toList)
theorem same_f (a b : S27) : Psame.trace_same.f a.f0 a.f1.f0 a.f1.f1 a.f1.f2 a.f2 a.f3 a.f4 b.f0 b.f1.f0 b.f1.f1 b.f1.f2 b.f2 b.f3 b.f4 = some (sameE a b) := by
  unfold Psame.trace_same.f Psame.bytes_Equal.f sameE
  by_cases h0 : a.f0 = b.f0
  · rw [if_pos h0, decide_eq_true h0]
    cases h1 : (a.f1.f0 == b.f1.f0 && (a.f1.f1 == b.f1.f1 && (a.f1.f2 == b.f1.f2)))
    · rw [if_neg (by simp)]; rfl
    · rw [if_pos rfl]
      by_cases h2 : a.f3 = b.f3
      · rw [if_pos h2, decide_eq_true h2]
        cases h3 : (a.f4 == b.f4)
        · rw [if_neg (by simp)]; rfl
        · rw [if_pos rfl]; rfl
      · rw [if_neg h2, decide_eq_false h2]; rfl
  · rw [if_neg h0, decide_eq_false h0]; rfl
def sameL (xs ys : List S27) : Bool := decide (xs.length = ys.length) && (List.range xs.length).all fun j => sameE (rd_T27 xs j) (rd_T27 ys j)
theorem sameL_not {xs ys : List S27} {j : Nat} (hj : j < xs.length) (h : sameE (rd_T27 xs j) (rd_T27 ys j) = false) : sameL xs ys = false := by
  unfold sameL
  cases ha : (List.range xs.length).all fun j => sameE (rd_T27 xs j) (rd_T27 ys j)
  · simp
  · rw [List.all_eq_true] at ha
    have := ha j (List.mem_range.2 hj)
    rw [h] at this
    cases this
theorem sameL_yes {xs ys : List S27} (hl : xs.length = ys.length) (h : ∀ j, j < xs.length → sameE (rd_T27 xs j) (rd_T27 ys j) = true) : sameL xs ys = true := by
  unfold sameL
  rw [decide_eq_true hl, Bool.true_and, List.all_eq_true]
  exact fun j hj => h j (List.mem_range.1 hj)
theorem same_call (a b : S27) (A B : Option Addr) (c d : Nat) (w : World) (ha : Kd.C (Kd.int .u8) w A a.f2.length a.f2) (hac : a.f2.length ≤ c) (hb : Kd.C (Kd.int .u8) w B b.f2.length b.f2) (hbc : b.f2.length ≤ d) :
    Calls Tryz.prog 23 #[.agg #[.int .i64 a.f0, .int .u32 a.f1.f0, .int .u8 a.f1.f1, .int .u8 a.f1.f2, .slice A a.f2.length c, .int .i64 a.f3, .bool a.f4], .agg #[.int .i64 b.f0, .int .u32 b.f1.f0, .int .u8 b.f1.f1, .int .u8 b.f1.f2, .slice B b.f2.length d, .int .i64 b.f3, .bool b.f4]] w fun e w' => e = .returned (.bool (sameE a b)) ∧ Below w.heap.size w w' :=
  Psame.trace_same.calls _ _ _ _ _ _ _ _ _ _ _ _ _ _ _ _ _ _ _ w ha hac hb hbc (same_f a b)
set_option maxHeartbeats 8000000 in
set_option maxRecDepth 100000 in
theorem equalFunc_ok (xs ys : List S27) (A B : Option Addr) (c d : Nat) (w : World) (hx : Kd.C k27 w A xs.length xs) (hy : Kd.C k27 w B ys.length ys) :
    Calls Tryz.prog 22 #[.slice A xs.length c, .slice B ys.length d, .func (.func 23) #[] #[]] w fun e w' => e = .returned (.bool (sameL xs ys)) ∧ Below w.heap.size w w' := by
  have hxm := Kd.C_max hx
  have HX := Aside0.mk hx
  have HY := Aside0.mk hy
  clear hx hy
  by_cases hl : xs.length = ys.length
  · have hlA := Aside0.mk hl
    have hlI : ((xs.length : Int) != (ys.length : Int)) = false := by simp; omega
    generalize hxn : xs.length = n at *
    generalize hyn : ys.length = m at *
    subst hl
    have hnA := Aside0.mk (And.intro hxn hyn)
    clear hxn hyn
    go_enter Tryz.func22, Tryz.ntmps22
    go_wp2_with (fail)
    go_loopw [17] (fun v17 wr => ∃ x : Int, v17 = .int .i64 x ∧ Aside0 (0 ≤ x ∧ x ≤ n) ∧ Aside0 (∀ j : Nat, j < x.toNat → sameE (rd_T27 xs j) (rd_T27 ys j) = true) ∧ Aside0 (Below w.heap.size w wr)) (fun v17 _ => n - (intOf v17).toNat)
    case atStart => exact ⟨0, rfl, ⟨by omega⟩, ⟨fun j hj => absurd hj (Nat.not_lt_zero _)⟩, ⟨Below.refl _ _⟩⟩
    case round =>
      obtain ⟨x, rfl, hxr, hsf, hB⟩ := hrel
      by_cases hlt : x < n
      · have h0 : 0 ≤ x := hxr.out.1
        obtain ⟨ad, A4, c4, eA, x0, x1, x2, x3, x4, x5, x6, xl, xC⟩ := at_T27 (Kd.C_below HX.out hB.out) x h0 hlt
        have hal1 : Below wr.heap.size wr (wr.alloc (.cells #[.int .i64 (rd_T27 xs x).f0, .int .u32 (rd_T27 xs x).f1.f0, .int .u8 (rd_T27 xs x).f1.f1, .int .u8 (rd_T27 xs x).f1.f2, .slice A4 (rd_T27 xs x).f2.length c4, .int .i64 (rd_T27 xs x).f3, .bool (rd_T27 xs x).f4] 27)) := (Below.refl _ wr).alloc (Nat.le_refl _) _
        obtain ⟨bd, B4, d4, eB, y0, y1, y2, y3, y4, y5, y6, yl, yC⟩ := at_T27 (Kd.C_below (Kd.C_below HY.out hB.out) hal1) x h0 hlt
        subst eA
        subst eB
        have hal2 := hal1.alloc (by simp) (.cells #[.int .i64 (rd_T27 ys x).f0, .int .u32 (rd_T27 ys x).f1.f0, .int .u8 (rd_T27 ys x).f1.f1, .int .u8 (rd_T27 ys x).f1.f2, .slice B4 (rd_T27 ys x).f2.length d4, .int .i64 (rd_T27 ys x).f3, .bool (rd_T27 ys x).f4] 27)
        have hal12 := (Below.refl _ (wr.alloc (.cells #[.int .i64 (rd_T27 xs x).f0, .int .u32 (rd_T27 xs x).f1.f0, .int .u8 (rd_T27 xs x).f1.f1, .int .u8 (rd_T27 xs x).f1.f2, .slice A4 (rd_T27 xs x).f2.length c4, .int .i64 (rd_T27 xs x).f3, .bool (rd_T27 xs x).f4] 27))).alloc (Nat.le_refl _) (.cells #[.int .i64 (rd_T27 ys x).f0, .int .u32 (rd_T27 ys x).f1.f0, .int .u8 (rd_T27 ys x).f1.f1, .int .u8 (rd_T27 ys x).f1.f2, .slice B4 (rd_T27 ys x).f2.length d4, .int .i64 (rd_T27 ys x).f3, .bool (rd_T27 ys x).f4] 27)
        have HC := Aside0.mk (same_call (rd_T27 xs x) (rd_T27 ys x) A4 B4 c4 d4 _ (Kd.C_below xC hal2) xl (Kd.C_below yC hal12) yl)
        have hb8 : ((wr.alloc (.cells #[.int .i64 (rd_T27 xs x).f0, .int .u32 (rd_T27 xs x).f1.f0, .int .u8 (rd_T27 xs x).f1.f1, .int .u8 (rd_T27 xs x).f1.f2, .slice A4 (rd_T27 xs x).f2.length c4, .int .i64 (rd_T27 xs x).f3, .bool (rd_T27 xs x).f4] 27)).alloc (.cells #[.int .i64 (rd_T27 ys x).f0, .int .u32 (rd_T27 ys x).f1.f0, .int .u8 (rd_T27 ys x).f1.f1, .int .u8 (rd_T27 ys x).f1.f2, .slice B4 (rd_T27 ys x).f2.length d4, .int .i64 (rd_T27 ys x).f3, .bool (rd_T27 ys x).f4] 27)).heap[wr.heap.size]? = some (.cells #[.int .i64 (rd_T27 xs x).f0, .int .u32 (rd_T27 xs x).f1.f0, .int .u8 (rd_T27 xs x).f1.f1, .int .u8 (rd_T27 xs x).f1.f2, .slice A4 (rd_T27 xs x).f2.length c4, .int .i64 (rd_T27 xs x).f3, .bool (rd_T27 xs x).f4] 27 (0, 0)) := (heap_alloc_old _ _ (by simp)).trans (heap_alloc_new _ _)
        have hb9 : ((wr.alloc (.cells #[.int .i64 (rd_T27 xs x).f0, .int .u32 (rd_T27 xs x).f1.f0, .int .u8 (rd_T27 xs x).f1.f1, .int .u8 (rd_T27 xs x).f1.f2, .slice A4 (rd_T27 xs x).f2.length c4, .int .i64 (rd_T27 xs x).f3, .bool (rd_T27 xs x).f4] 27)).alloc (.cells #[.int .i64 (rd_T27 ys x).f0, .int .u32 (rd_T27 ys x).f1.f0, .int .u8 (rd_T27 ys x).f1.f1, .int .u8 (rd_T27 ys x).f1.f2, .slice B4 (rd_T27 ys x).f2.length d4, .int .i64 (rd_T27 ys x).f3, .bool (rd_T27 ys x).f4] 27)).heap[wr.heap.size + 1]? = some (.cells #[.int .i64 (rd_T27 ys x).f0, .int .u32 (rd_T27 ys x).f1.f0, .int .u8 (rd_T27 ys x).f1.f1, .int .u8 (rd_T27 ys x).f1.f2, .slice B4 (rd_T27 ys x).f2.length d4, .int .i64 (rd_T27 ys x).f3, .bool (rd_T27 ys x).f4] 27 (0, 0)) := by
          rw [show wr.heap.size + 1 = (wr.alloc (.cells #[.int .i64 (rd_T27 xs x).f0, .int .u32 (rd_T27 xs x).f1.f0, .int .u8 (rd_T27 xs x).f1.f1, .int .u8 (rd_T27 xs x).f1.f2, .slice A4 (rd_T27 xs x).f2.length c4, .int .i64 (rd_T27 xs x).f3, .bool (rd_T27 xs x).f4] 27)).heap.size by simp]
          exact heap_alloc_new _ _
        have hB8 := Aside0.mk hb8
        have hB9 := Aside0.mk hb9
        have hAL := Aside0.mk (hB.out.trans (hal2.mono hB.out.size))
        clear xC yC xl yl hal1 hal2 hal12 hb8 hb9
        go_upto_region 7 with (fail)
        generalize (wr.alloc _).alloc _ = W at *
        obtain ⟨m0, m1, m2, m3, m4, m5, m6⟩ : _ ∧ _ ∧ _ ∧ _ ∧ _ ∧ _ ∧ _ := ⟨blk_cell hB8.out 0, blk_cell hB8.out 1, blk_cell hB8.out 2, blk_cell hB8.out 3, blk_cell hB8.out 4, blk_cell hB8.out 5, blk_cell hB8.out 6⟩
        obtain ⟨q0, q1, q2, q3, q4, q5, q6⟩ : _ ∧ _ ∧ _ ∧ _ ∧ _ ∧ _ ∧ _ := ⟨blk_cell hB9.out 0, blk_cell hB9.out 1, blk_cell hB9.out 2, blk_cell hB9.out 3, blk_cell hB9.out 4, blk_cell hB9.out 5, blk_cell hB9.out 6⟩
        replace m0 := m0.trans rfl
        replace m1 := m1.trans rfl
        replace m2 := m2.trans rfl
        replace m3 := m3.trans rfl
        replace m4 := m4.trans rfl
        replace m5 := m5.trans rfl
        replace m6 := m6.trans rfl
        replace q0 := q0.trans rfl
        replace q1 := q1.trans rfl
        replace q2 := q2.trans rfl
        replace q3 := q3.trans rfl
        replace q4 := q4.trans rfl
        replace q5 := q5.trans rfl
        replace q6 := q6.trans rfl
        clear x0 x1 x2 x3 x4 x5 x6 y0 y1 y2 y3 y4 y5 y6
        go_wp2_with (fail)
        refine HC.out.mono ?_
        rintro e w5 ⟨rfl, hb5⟩
        have hB5 := Aside0.mk (hAL.out.trans (hb5.mono hAL.out.size))
        have hxr2 := Aside0.mk (show x = ((x.toNat : Nat) : Int) by omega)
        generalize hS : sameE (rd_T27 xs x) (rd_T27 ys x) = S at *
        have hSA := Aside0.mk hS
        clear hS HC hb5 hAL
        cases S
        · go_wp2_with (fail)
          go_ret
          exact ⟨by rw [sameL_not (j := x.toNat) (by rw [hnA.out.1]; omega) (by rw [← hxr2.out]; exact hSA.out)]; rfl, hB5.out⟩
        · have hw64 : wrap64 (x + 1) = x + 1 := by unfold wrap64; omega
          go_wp2_with (fail)
          go_roundw
          case rel =>
            refine ⟨x + 1, by go_num, ⟨by omega⟩, ⟨fun j hj => ?_⟩, hB5⟩
            by_cases hj2 : j < x.toNat
            · exact hsf.out j hj2
            · have : j = x.toNat := by omega
              subst this
              rw [← hxr2.out]
              exact hSA.out
          case measure => simp [intOf]; omega
      · have hxn : x = n := by have := hxr.out; omega
        subst hxn
        go_wp2_with (fail)
        go_ret
        exact ⟨by rw [sameL_yes (by rw [hnA.out.1, hnA.out.2]) (fun j hj => hsf.out j (by rw [hnA.out.1] at hj; omega))]; rfl, hB.out⟩
  · have hlI : ((xs.length : Int) != (ys.length : Int)) = true := by simp; omega
    have hno : sameL xs ys = false := by unfold sameL; rw [decide_eq_false hl]; rfl
    go_enter Tryz.func22, Tryz.ntmps22
    go_wp2_with (fail)
    go_ret
    exact ⟨by rw [hno]; rfl, Below.refl _ _⟩
set_option maxHeartbeats 1000000 in
set_option maxRecDepth 100000 in
theorem traceSame_ok (xs ys : List S27) (A B : Option Addr) (c d : Nat) (w : World) (hx : Kd.C k27 w A xs.length xs) (hy : Kd.C k27 w B ys.length ys) :
    Calls Tryz.prog 10 #[.slice A xs.length c, .slice B ys.length d] w fun e w' => e = .returned (.bool (sameL xs ys)) ∧ Below w.heap.size w w' := by
  have HE := equalFunc_ok xs ys A B c d w hx hy
  go_enter Tryz.func10, Tryz.ntmps10
  go_wp2_with (fail)
  refine HE.mono ?_
  rintro e w1 ⟨rfl, hb⟩
  go_wp2_with (fail)
  go_ret
  exact ⟨rfl, hb⟩
/-- What was written. -/
def wrE (x : S27) : List Int := if x.f0 = 2 then x.f2.take (min x.f3 x.f2.length).toNat else []
def wrL (xs : List S27) : List Int := (xs.map wrE).flatten
theorem wrL_snoc (xs : List S27) (x : S27) : wrL (xs ++ [x]) = wrL xs ++ wrE x := by unfold wrL; simp
theorem take_rd {xs : List S27} {j : Nat} (h : j < xs.length) : xs.take (j + 1) = xs.take j ++ [rd_T27 xs j] := by
  rw [List.take_succ_eq_append_getElem h]
  congr 2
  unfold rd_T27
  simp [List.getD_eq_getElem?_getD, List.getElem?_eq_getElem h]
end Go.Proofs.YtbiogabekhegaaaGreatDoor.Hand

namespace Go.Proofs.YtbiogabekhegaaaGreatDoor.Hand
open Go.RowKit Go.Proofs.YtbiogabekhegaaaGreatDoorW.PrintWords Go.Proofs.YtbiogabekhegaaaGreatDoorW.PrintLast Go.Proofs.YtbiogabekhegaaaGreatDoorW.PrintMore
open Go.Proofs.YtbiogabekhegaaaGreatDoor.PWritten (S27 S25 k27 z27 rd_T27 at_T27 k27_mk)
attribute [local go_sem] max2_int min2_int max_two min_two
set_option linter.unusedVariables false
set_option linter.unusedSimpArgs false
theorem infoB : (Tryz.prog.info? 5).map (fun i => (i.zero, i.size, i.bytes)) = some (some (.int .u8 0), 1, 1) := by kernel_rfl
abbrev effV (x : S27) (A : Option Addr) (c : Nat) : Array Value := #[.int .i64 x.f0, .int .u32 x.f1.f0, .int .u8 x.f1.f1, .int .u8 x.f1.f2, .slice A x.f2.length c, .int .i64 x.f3, .bool x.f4]
set_option maxHeartbeats 8000000 in
set_option maxRecDepth 100000 in
theorem written_ok (xs : List S27) (A : Option Addr) (c : Nat) (w : World) (hx : Kd.C k27 w A xs.length xs) (hlen : ∀ j, (wrL (xs.take j)).length ≤ 1000000000) (hd : ∀ e ∈ xs, e.f0 = 2 → e.f2.length ≤ 1000000000) :
    Calls Tryz.prog 9 #[.slice A xs.length c] w fun e w' => ∃ v, e = .returned v ∧ Kd.R (Kd.int .u8) 5 w' w.heap.size (fun _ => True) v (wrL xs) ∧ Below w.heap.size w w' := by
  have hxm := Kd.C_max hx
  have HX := Aside0.mk hx
  have HL := Aside0.mk hlen
  have HD := Aside0.mk hd
  clear hx hlen hd
  generalize hxn : xs.length = n at *
  have hnA := Aside0.mk hxn
  clear hxn
  go_enter Tryz.func9, Tryz.ntmps9
  go_wp2_with (fail)
  go_loopw [3, 8] (fun v3 v8 wr => ∃ x : Int, v8 = .int .i64 x ∧ Aside0 (0 ≤ x ∧ x ≤ n) ∧ Aside0 (Kd.R (Kd.int .u8) 5 wr w.heap.size (fun _ => True) v3 (wrL (xs.take x.toNat))) ∧ Aside0 (Below w.heap.size w wr)) (fun _ v8 _ => n - (intOf v8).toNat)
  case atStart => exact ⟨0, rfl, ⟨by omega⟩, ⟨Kd.R_nil _ _ _ _ _⟩, ⟨Below.refl _ _⟩⟩
  case round =>
    obtain ⟨x, rfl, hxr, hR, hB⟩ := hrel
    by_cases hlt : x < n
    · have h0 : 0 ≤ x := hxr.out.1
      obtain ⟨ad, A4, c4, eA, x0, x1, x2, x3, x4, x5, x6, xl, xC⟩ := at_T27 (Kd.C_below HX.out hB.out) x h0 hlt
      subst eA
      have hres := Aside0.mk (show x = ((x.toNat : Nat) : Int) by omega)
      have hsn : Aside0 (wrL (xs.take (x.toNat + 1)) = wrL (xs.take x.toNat) ++ wrE (rd_T27 xs x)) := ⟨by rw [take_rd (by rw [hnA.out]; omega), wrL_snoc, ← hres.out]⟩
      have hl1 := Aside0.mk (HL.out x.toNat)
      have hdl : Aside0 ((rd_T27 xs x).f0 = 2 → (rd_T27 xs x).f2.length ≤ 1000000000) := ⟨HD.out _ (by unfold rd_T27; rw [List.getD_eq_getElem?_getD, List.getElem?_eq_getElem (by rw [hnA.out]; omega)]; exact List.getElem_mem _)⟩
      have hal1 : Below wr.heap.size wr (wr.alloc (.cells (effV (rd_T27 xs x) A4 c4) 27)) := (Below.refl _ wr).alloc (Nat.le_refl _) _
      have hE := Aside0.mk (heap_alloc_new wr (.cells (effV (rd_T27 xs x) A4 c4) 27))
      have hAL := Aside0.mk (hB.out.trans (hal1.mono hB.out.size))
      have xC1 := Aside0.mk (And.intro (Kd.C_below xC hal1) xl)
      have hR1 := Aside0.mk (Kd.R_below hR.out hal1)
      clear xC xl hal1 hR
      generalize wrL (xs.take x.toNat) = acc at *
      generalize rd_T27 xs x = E at *
      go_upto_region 5 with (fail)
      generalize wr.alloc (.cells _ 27) = W at *
      have m0 : W.cell? ⟨wr.heap.size, 0, none⟩ = some (.int .i64 E.f0) := blk_cell hE.out 0
      have m4 : W.cell? ⟨wr.heap.size, 4, none⟩ = some (.slice A4 E.f2.length c4) := blk_cell hE.out 4
      have m5 : W.cell? ⟨wr.heap.size, 5, none⟩ = some (.int .i64 E.f3) := blk_cell hE.out 5
      have hw64 : wrap64 (x + 1) = x + 1 := by unfold wrap64; omega
      clear x0 x1 x2 x3 x4 x5 x6
      by_cases hk : E.f0 = 2
      · have hk' : (E.f0 == 2) = true := beq_iff_eq.mpr hk
        obtain ⟨ji6, hji6⟩ : ∃ j, (if (E.f2.length : Int) < E.f3 then (E.f2.length : Int) else E.f3) = j := ⟨_, rfl⟩
        obtain ⟨ji7, hji7⟩ : ∃ j, (if 0 < ji6 then ji6 else 0) = j := ⟨_, rfl⟩
        have hj : 0 ≤ ji7 ∧ ji7 ≤ E.f2.length ∧ ji7.toNat = (min E.f3 E.f2.length).toNat := by
          split at hji6 <;> split at hji7 <;> omega
        have hwr : wrE E = E.f2.take ji7.toNat := by unfold wrE; rw [if_pos hk, hj.2.2]
        rw [hwr] at hsn
        obtain ⟨i0, hi0, _, hsz, _⟩ := info_parts infoB
        obtain ⟨hcut, hA, hC⟩ := print_take_of (P := Tryz.prog) (Value.int .u8) 0 22 5 .i64 Tryz.underlying22 hi0 hsz A4 c4 E.f2 ji7 hj.1 hj.2.1 xC1.out.2
        have hA13 := Aside0.mk (Kd.C_of_reads (h1 := fun _ => rfl) (hA _ (Kd.reads_of_C xC1.out.1)))
        have htl : Aside0 ((E.f2.take ji7.toNat).length ≤ 1000000000) := ⟨by rw [List.length_take]; have := hdl.out hk; omega⟩
        have hkA := Aside0.mk hk
        have hjA := Aside0.mk hj
        clear hk hwr hi0 hsz hA hC hj
        have htt : (E.f2.take ji7.toNat).length = ji7.toNat := by rw [List.length_take]; have := hjA.out; omega
        rw [htt] at hcut hA13
        have httA := Aside0.mk htt
        clear htt
        go_wp2_with ((with_reducible refine gate_builtin (b := .append) (xs := #[.tmp 15, .tmp 25]) rfl ?_); at_builtin; refine Kd.R_append_rows (Kd.int .u8) (w0 := w) w.heap.size rfl (.tmp 15) (.tmp 25) 22 5 (.int .u8 0) 1 rfl Tryz.underlying22 infoB rfl (by decide) (by omega) u3 acc (E.f2.take ji7.toNat) _ _ _ (fun _ => True) (fun _ => False) rfl rfl hR1.out hA13.out (fun _ _ h => h) (fun _ h => h.elim) (fun _ _ => trivial) hAL.out hAL.out.size (by have := hl1.out; have := htl.out; have := httA.out; omega) ?_; intro v1 w3 ho hb hg hat)
        go_roundw
        case rel =>
          refine ⟨x + 1, by go_num, ⟨by omega⟩, ⟨?_⟩, ⟨hb⟩⟩
          rw [show (x + 1).toNat = x.toNat + 1 by omega, hsn.out]
          exact ho
        case measure => simp [intOf]; omega
      · have hk' : (E.f0 == 2) = false := beq_eq_false_iff_ne.mpr hk
        have hwr : wrE E = [] := by unfold wrE; rw [if_neg hk]
        rw [hwr, List.append_nil] at hsn
        clear hk hwr
        go_wp2_with (fail)
        go_roundw
        case rel =>
          refine ⟨x + 1, by go_num, ⟨by omega⟩, ⟨?_⟩, hAL⟩
          rw [show (x + 1).toNat = x.toNat + 1 by omega, hsn.out]
          exact hR1.out
        case measure => simp [intOf]; omega
    · have hxn : x = n := by have := hxr.out; omega
      subst hxn
      go_wp2_with (fail)
      go_ret
      refine ⟨_, rfl, ?_, hB.out⟩
      have := hR.out
      rw [Int.toNat_natCast, List.take_of_length_le (by rw [hnA.out]; exact Nat.le_refl _)] at this
      exact this
end Go.Proofs.YtbiogabekhegaaaGreatDoor.Hand
