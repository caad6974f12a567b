/- keys.Read in the print's shape. -/
import Derived.Test.YtanlgkmijegefaaDoorHandKeyTab
import Derived.Lib.AtoiErrMem
namespace Go.Proofs.YtanlgkmijegefaaDoor.Hand
open Go.RowKit Go.Maps Go.WideShapes Go.WideMaps Go.ChangeMaps Go.Proofs.YtanlgkmijegefaaDoorW.PrintWords Go.Proofs.YtanlgkmijegefaaDoorW.PrintLast Go.Proofs.YtanlgkmijegefaaDoor.Pcheck
set_option linter.unusedVariables false
set_option linter.unusedSimpArgs false

def namesBA : List ByteArray := nameL.map (fun l => ⟨l.toArray⟩)
/-- What strconv.Atoi answers, its error left aside. -/
def atoiV (l : List UInt8) : Int := match Lib.atoiAll l with | .ok v => v | .range => Lib.atoiSat l | _ => 0

theorem atoi_any (s : ByteArray) (hs : s.size ≤ 281474976710656) (w : World) (HT : Tab w) :
    Calls Tryd.prog 26 #[.string s] w fun e w' => ∃ ev, e = .returned (.tuple #[.int .i64 (atoiV s.data.toList), ev]) ∧ Below w.heap.size w w' := by
  unfold atoiV
  by_cases hs' : isSyn (Lib.atoiAll s.data.toList) = true
  · obtain ⟨ev, h1, h2⟩ := HT.es
    refine (Tryd.strconv_Atoi_syntax s hs hs' ev w h1 h2).mono ?_
    rintro e w' ⟨N, rfl, _, _, hb⟩
    refine ⟨.iface 78 (.pointer (some ⟨N, 0, none⟩)), ?_, hb⟩
    revert hs'
    cases Lib.atoiAll s.data.toList <;> simp [isSyn]
  · cases h : Lib.atoiAll s.data.toList with
    | ok v =>
      refine (Tryd.strconv_Atoi_ok s (by omega) v h w).mono ?_
      rintro e w' ⟨rfl, hw⟩
      refine ⟨_, rfl, ?_⟩
      rcases hw with rfl | ⟨t, rfl⟩
      · exact Below.refl _ _
      · exact Lib.bytesWorld_below w 5 t
    | range =>
      obtain ⟨ev, h1, h2⟩ := HT.er
      refine (Tryd.strconv_Atoi_range s hs h ev w h1 h2).mono ?_
      rintro e w' ⟨N, rfl, _, _, hb⟩
      exact ⟨_, rfl, hb⟩
    | _ =>
      rw [h] at hs'
      exact absurd rfl hs'

/-- What keys.Read answers: kd, c what was read; T, e0 what its text is. -/
def ReadOk (S : ByteArray) (w : World) (r1 r2 r3 : Int) : Prop := Calls Tryd.prog 10 #[.string S] w fun e w' => e = .returned (.tuple #[.agg #[.int .i64 r1, .int .i64 r2], .int .i64 r3]) ∧ Below w.heap.size w w'

set_option maxHeartbeats 1000000 in
set_option maxRecDepth 100000 in
theorem read_more_err (S W0 R0 T : ByteArray) (kd c e0 : Int) (hS : S.size < 4294967281) (hcut : Lib.cut S.data.toList [32] = (W0.data.toList, R0.data.toList, true)) (hidx : Lib.idxOfS (namesBA.take 16) W0 = kd) (w : World) (HT : Tab w) (he : (e0 != 0) = true)
    (hat : ∀ w', Tab w' → Calls Tryd.prog 26 #[.string R0] w' fun e w'' => ∃ ev, e = .returned (.tuple #[.int .i64 c, ev]) ∧ Below w'.heap.size w' w'')
    (ht : ∀ w', Tab w' → TextOk kd c w' T e0) : ReadOk S w 0 0 8 := by
  unfold ReadOk
  obtain ⟨m, hm⟩ := HT.mx
  have hm' : ∀ o : Obj, (w.alloc o).cell? ⟨3, 0, none⟩ = some (.int .i64 m) := fun o => keepC hm ((Below.refl _ w).alloc (Nat.le_refl _) o)
  have h0 : 0 < w.heap.size := HT.pos
  go_enter Tryd.func10, Tryd.ntmps10
  go_wp2_with (fail)
  refine (Tryd.strings_Cut S ⟨#[32]⟩ m _ hS (hm' _)).mono ?_
  rintro e w1 ⟨rfl, n1, rfl⟩
  have e1 : Lib.cut S.data.toList (⟨#[32]⟩ : ByteArray).data.toList = (W0.data.toList, R0.data.toList, true) := hcut
  simp only [e1]
  clear e1 hcut
  go_wp2_with (fail)
  have hgw : Below w.heap.size w (w.alloc (.cells #[.int .i64 0, .int .i64 0] 23)) := (Below.refl _ w).alloc (Nat.le_refl _) _
  refine (Tryd.slices_Index_string 0 0 16 16 namesBA W0 _ (by decide) (by decide) (fun j hj => by
    have hj' : j < 16 := hj
    rw [Nat.zero_add]
    have h1 := (HT.nm.below hgw h0) j hj'
    refine h1.trans ?_
    unfold nameB namesBA
    rw [List.getD_eq_getElem?_getD, List.getD_eq_getElem?_getD, List.getElem?_map, List.getElem?_eq_getElem (show j < nameL.length from hj')]
    rfl)).mono ?_
  rintro e w2 ⟨rfl, rfl⟩
  simp only [hidx]
  clear hidx
  go_wp2_with (fail)
  have zz : Below w.heap.size w (((w.alloc (.cells #[.int .i64 0, .int .i64 0] 23)).drewN n1).alloc (.cells #[.int .i64 kd, .int .i64 0] 23)) := (pw_below_drewN hgw n1).alloc (by simp) _
  have hA : (((w.alloc (.cells #[.int .i64 0, .int .i64 0] 23)).drewN n1).alloc (.cells #[.int .i64 kd, .int .i64 0] 23)).heap[w.heap.size + 1]? = some (.cells #[.int .i64 kd, .int .i64 0] 23 (0, 0)) := by
    have := heap_alloc_new ((w.alloc (.cells #[.int .i64 0, .int .i64 0] 23)).drewN n1) (.cells #[.int .i64 kd, .int .i64 0] 23 (0, 0))
    simpa using this
  have hB : (((w.alloc (.cells #[.int .i64 0, .int .i64 0] 23)).drewN n1).alloc (.cells #[.int .i64 kd, .int .i64 0] 23)).heap[w.heap.size]? = some (.cells #[.int .i64 0, .int .i64 0] 23 (0, 0)) := by
    refine (heap_alloc_old ((w.alloc (.cells #[.int .i64 0, .int .i64 0] 23)).drewN n1) _ (show w.heap.size < _ by simp)).trans ?_
    exact heap_alloc_new w _
  refine (hat _ (HT.below zz)).mono ?_
  rintro e w3 ⟨ev, rfl, b3⟩
  have hA3 := (b3.block (w.heap.size + 1) (Array.getElem?_eq_some_iff.1 hA).1).trans hA
  have hB3 := (b3.block w.heap.size (Array.getElem?_eq_some_iff.1 hB).1).trans hB
  have z3 : Below w.heap.size w w3 := zz.trans (b3.mono zz.size)
  clear b3 zz hA hB hgw hm'
  have hA0 := (blk_cell hA3 0).trans rfl
  have hA1 := (blk_cell hA3 1).trans rfl
  have hAf0 := blk_frozen hA3 0
  have hAf1 := blk_frozen hA3 1
  go_wp2_with (fail)
  have z4 : Below w.heap.size w (w3.setCell ⟨w.heap.size + 1, 1, none⟩ (.int .i64 c)) := below_set z3 (Nat.le_succ _)
  have hA4 : (w3.setCell ⟨w.heap.size + 1, 1, none⟩ (.int .i64 c)).heap[w.heap.size + 1]? = some (.cells #[.int .i64 kd, .int .i64 c] 23 (0, 0)) := by
    refine blk_put (cs := #[.int .i64 kd, .int .i64 0]) ?_ 1 _ rfl
    exact hA3
  have hB4 : (w3.setCell ⟨w.heap.size + 1, 1, none⟩ (.int .i64 c)).heap[w.heap.size]? = some (.cells #[.int .i64 0, .int .i64 0] 23 (0, 0)) :=
    (Below.heap_setCell w3 ⟨w.heap.size + 1, 1, none⟩ (.int .i64 c) w.heap.size (by simp)).trans hB3
  clear hA0 hA1 hAf0 hAf1 z3 hA3 hB3
  refine (ht _ (HT.below z4)).mono ?_
  rintro e w5 ⟨rfl, b5⟩
  have hA5 := (b5.block (w.heap.size + 1) (Array.getElem?_eq_some_iff.1 hA4).1).trans hA4
  have hB5 := (b5.block w.heap.size (Array.getElem?_eq_some_iff.1 hB4).1).trans hB4
  have z5 : Below w.heap.size w w5 := z4.trans (b5.mono z4.size)
  clear hA4 hB4 z4 b5
  have hA0 := (blk_cell hA5 0).trans rfl
  have hA1 := (blk_cell hA5 1).trans rfl
  have hB0 := (blk_cell hB5 0).trans rfl
  have hB1 := (blk_cell hB5 1).trans rfl
  have hBf0 := blk_frozen hB5 0
  have hBf1 := blk_frozen hB5 1
  go_wp2_with (fail)
  refine bodyPost_ret (results_ct rfl _ _ w.heap.size 23 #[.int .i64 0, .int .i64 0] (0, 0) _ rfl (by refine blk_put (cs := #[.int .i64 0, .int .i64 0]) ?_ 1 _ rfl; refine blk_put (cs := #[.int .i64 0, .int .i64 0]) ?_ 0 _ rfl; exact hB5) Tryd.underlying23 rfl (by kernel_rfl)) rfl ?_
  exact ⟨rfl, below_set (below_set z5 (Nat.le_refl _)) (Nat.le_refl _)⟩

set_option maxHeartbeats 1000000 in
set_option maxRecDepth 100000 in
theorem read_more_ne (S W0 R0 T : ByteArray) (kd c e0 : Int) (hS : S.size < 4294967281) (hcut : Lib.cut S.data.toList [32] = (W0.data.toList, R0.data.toList, true)) (hidx : Lib.idxOfS (namesBA.take 16) W0 = kd) (w : World) (HT : Tab w) (he : e0 = 0) (hts : (T.toList == S.toList) = false)
    (hat : ∀ w', Tab w' → Calls Tryd.prog 26 #[.string R0] w' fun e w'' => ∃ ev, e = .returned (.tuple #[.int .i64 c, ev]) ∧ Below w'.heap.size w' w'')
    (ht : ∀ w', Tab w' → TextOk kd c w' T e0) : ReadOk S w 0 0 8 := by
  unfold ReadOk
  subst he
  obtain ⟨m, hm⟩ := HT.mx
  have hm' : ∀ o : Obj, (w.alloc o).cell? ⟨3, 0, none⟩ = some (.int .i64 m) := fun o => keepC hm ((Below.refl _ w).alloc (Nat.le_refl _) o)
  have h0 : 0 < w.heap.size := HT.pos
  go_enter Tryd.func10, Tryd.ntmps10
  go_wp2_with (fail)
  refine (Tryd.strings_Cut S ⟨#[32]⟩ m _ hS (hm' _)).mono ?_
  rintro e w1 ⟨rfl, n1, rfl⟩
  have e1 : Lib.cut S.data.toList (⟨#[32]⟩ : ByteArray).data.toList = (W0.data.toList, R0.data.toList, true) := hcut
  simp only [e1]
  clear e1 hcut
  go_wp2_with (fail)
  have hgw : Below w.heap.size w (w.alloc (.cells #[.int .i64 0, .int .i64 0] 23)) := (Below.refl _ w).alloc (Nat.le_refl _) _
  refine (Tryd.slices_Index_string 0 0 16 16 namesBA W0 _ (by decide) (by decide) (fun j hj => by
    have hj' : j < 16 := hj
    rw [Nat.zero_add]
    have h1 := (HT.nm.below hgw h0) j hj'
    refine h1.trans ?_
    unfold nameB namesBA
    rw [List.getD_eq_getElem?_getD, List.getD_eq_getElem?_getD, List.getElem?_map, List.getElem?_eq_getElem (show j < nameL.length from hj')]
    rfl)).mono ?_
  rintro e w2 ⟨rfl, rfl⟩
  simp only [hidx]
  clear hidx
  go_wp2_with (fail)
  have zz : Below w.heap.size w (((w.alloc (.cells #[.int .i64 0, .int .i64 0] 23)).drewN n1).alloc (.cells #[.int .i64 kd, .int .i64 0] 23)) := (pw_below_drewN hgw n1).alloc (by simp) _
  have hA : (((w.alloc (.cells #[.int .i64 0, .int .i64 0] 23)).drewN n1).alloc (.cells #[.int .i64 kd, .int .i64 0] 23)).heap[w.heap.size + 1]? = some (.cells #[.int .i64 kd, .int .i64 0] 23 (0, 0)) := by
    have := heap_alloc_new ((w.alloc (.cells #[.int .i64 0, .int .i64 0] 23)).drewN n1) (.cells #[.int .i64 kd, .int .i64 0] 23 (0, 0))
    simpa using this
  have hB : (((w.alloc (.cells #[.int .i64 0, .int .i64 0] 23)).drewN n1).alloc (.cells #[.int .i64 kd, .int .i64 0] 23)).heap[w.heap.size]? = some (.cells #[.int .i64 0, .int .i64 0] 23 (0, 0)) := by
    refine (heap_alloc_old ((w.alloc (.cells #[.int .i64 0, .int .i64 0] 23)).drewN n1) _ (show w.heap.size < _ by simp)).trans ?_
    exact heap_alloc_new w _
  refine (hat _ (HT.below zz)).mono ?_
  rintro e w3 ⟨ev, rfl, b3⟩
  have hA3 := (b3.block (w.heap.size + 1) (Array.getElem?_eq_some_iff.1 hA).1).trans hA
  have hB3 := (b3.block w.heap.size (Array.getElem?_eq_some_iff.1 hB).1).trans hB
  have z3 : Below w.heap.size w w3 := zz.trans (b3.mono zz.size)
  clear b3 zz hA hB hgw hm'
  have hA0 := (blk_cell hA3 0).trans rfl
  have hA1 := (blk_cell hA3 1).trans rfl
  have hAf0 := blk_frozen hA3 0
  have hAf1 := blk_frozen hA3 1
  go_wp2_with (fail)
  have z4 : Below w.heap.size w (w3.setCell ⟨w.heap.size + 1, 1, none⟩ (.int .i64 c)) := below_set z3 (Nat.le_succ _)
  have hA4 : (w3.setCell ⟨w.heap.size + 1, 1, none⟩ (.int .i64 c)).heap[w.heap.size + 1]? = some (.cells #[.int .i64 kd, .int .i64 c] 23 (0, 0)) := by
    refine blk_put (cs := #[.int .i64 kd, .int .i64 0]) ?_ 1 _ rfl
    exact hA3
  have hB4 : (w3.setCell ⟨w.heap.size + 1, 1, none⟩ (.int .i64 c)).heap[w.heap.size]? = some (.cells #[.int .i64 0, .int .i64 0] 23 (0, 0)) :=
    (Below.heap_setCell w3 ⟨w.heap.size + 1, 1, none⟩ (.int .i64 c) w.heap.size (by simp)).trans hB3
  clear hA0 hA1 hAf0 hAf1 z3 hA3 hB3
  refine (ht _ (HT.below z4)).mono ?_
  rintro e w5 ⟨rfl, b5⟩
  have hA5 := (b5.block (w.heap.size + 1) (Array.getElem?_eq_some_iff.1 hA4).1).trans hA4
  have hB5 := (b5.block w.heap.size (Array.getElem?_eq_some_iff.1 hB4).1).trans hB4
  have z5 : Below w.heap.size w w5 := z4.trans (b5.mono z4.size)
  clear hA4 hB4 z4 b5
  have hA0 := (blk_cell hA5 0).trans rfl
  have hA1 := (blk_cell hA5 1).trans rfl
  have hB0 := (blk_cell hB5 0).trans rfl
  have hB1 := (blk_cell hB5 1).trans rfl
  have hBf0 := blk_frozen hB5 0
  have hBf1 := blk_frozen hB5 1
  go_wp2_with (fail)
  refine bodyPost_ret (results_ct rfl _ _ w.heap.size 23 #[.int .i64 0, .int .i64 0] (0, 0) _ rfl (by refine blk_put (cs := #[.int .i64 0, .int .i64 0]) ?_ 1 _ rfl; refine blk_put (cs := #[.int .i64 0, .int .i64 0]) ?_ 0 _ rfl; exact hB5) Tryd.underlying23 rfl (by kernel_rfl)) rfl ?_
  exact ⟨rfl, below_set (below_set z5 (Nat.le_refl _)) (Nat.le_refl _)⟩

set_option maxHeartbeats 1000000 in
set_option maxRecDepth 100000 in
theorem read_more_eq (S W0 R0 T : ByteArray) (kd c e0 : Int) (hS : S.size < 4294967281) (hcut : Lib.cut S.data.toList [32] = (W0.data.toList, R0.data.toList, true)) (hidx : Lib.idxOfS (namesBA.take 16) W0 = kd) (w : World) (HT : Tab w) (he : e0 = 0) (hts : (T.toList == S.toList) = true)
    (hat : ∀ w', Tab w' → Calls Tryd.prog 26 #[.string R0] w' fun e w'' => ∃ ev, e = .returned (.tuple #[.int .i64 c, ev]) ∧ Below w'.heap.size w' w'')
    (ht : ∀ w', Tab w' → TextOk kd c w' T e0) : ReadOk S w kd c 0 := by
  unfold ReadOk
  subst he
  obtain ⟨m, hm⟩ := HT.mx
  have hm' : ∀ o : Obj, (w.alloc o).cell? ⟨3, 0, none⟩ = some (.int .i64 m) := fun o => keepC hm ((Below.refl _ w).alloc (Nat.le_refl _) o)
  have h0 : 0 < w.heap.size := HT.pos
  go_enter Tryd.func10, Tryd.ntmps10
  go_wp2_with (fail)
  refine (Tryd.strings_Cut S ⟨#[32]⟩ m _ hS (hm' _)).mono ?_
  rintro e w1 ⟨rfl, n1, rfl⟩
  have e1 : Lib.cut S.data.toList (⟨#[32]⟩ : ByteArray).data.toList = (W0.data.toList, R0.data.toList, true) := hcut
  simp only [e1]
  clear e1 hcut
  go_wp2_with (fail)
  have hgw : Below w.heap.size w (w.alloc (.cells #[.int .i64 0, .int .i64 0] 23)) := (Below.refl _ w).alloc (Nat.le_refl _) _
  refine (Tryd.slices_Index_string 0 0 16 16 namesBA W0 _ (by decide) (by decide) (fun j hj => by
    have hj' : j < 16 := hj
    rw [Nat.zero_add]
    have h1 := (HT.nm.below hgw h0) j hj'
    refine h1.trans ?_
    unfold nameB namesBA
    rw [List.getD_eq_getElem?_getD, List.getD_eq_getElem?_getD, List.getElem?_map, List.getElem?_eq_getElem (show j < nameL.length from hj')]
    rfl)).mono ?_
  rintro e w2 ⟨rfl, rfl⟩
  simp only [hidx]
  clear hidx
  go_wp2_with (fail)
  have zz : Below w.heap.size w (((w.alloc (.cells #[.int .i64 0, .int .i64 0] 23)).drewN n1).alloc (.cells #[.int .i64 kd, .int .i64 0] 23)) := (pw_below_drewN hgw n1).alloc (by simp) _
  have hA : (((w.alloc (.cells #[.int .i64 0, .int .i64 0] 23)).drewN n1).alloc (.cells #[.int .i64 kd, .int .i64 0] 23)).heap[w.heap.size + 1]? = some (.cells #[.int .i64 kd, .int .i64 0] 23 (0, 0)) := by
    have := heap_alloc_new ((w.alloc (.cells #[.int .i64 0, .int .i64 0] 23)).drewN n1) (.cells #[.int .i64 kd, .int .i64 0] 23 (0, 0))
    simpa using this
  have hB : (((w.alloc (.cells #[.int .i64 0, .int .i64 0] 23)).drewN n1).alloc (.cells #[.int .i64 kd, .int .i64 0] 23)).heap[w.heap.size]? = some (.cells #[.int .i64 0, .int .i64 0] 23 (0, 0)) := by
    refine (heap_alloc_old ((w.alloc (.cells #[.int .i64 0, .int .i64 0] 23)).drewN n1) _ (show w.heap.size < _ by simp)).trans ?_
    exact heap_alloc_new w _
  refine (hat _ (HT.below zz)).mono ?_
  rintro e w3 ⟨ev, rfl, b3⟩
  have hA3 := (b3.block (w.heap.size + 1) (Array.getElem?_eq_some_iff.1 hA).1).trans hA
  have hB3 := (b3.block w.heap.size (Array.getElem?_eq_some_iff.1 hB).1).trans hB
  have z3 : Below w.heap.size w w3 := zz.trans (b3.mono zz.size)
  clear b3 zz hA hB hgw hm'
  have hA0 := (blk_cell hA3 0).trans rfl
  have hA1 := (blk_cell hA3 1).trans rfl
  have hAf0 := blk_frozen hA3 0
  have hAf1 := blk_frozen hA3 1
  go_wp2_with (fail)
  have z4 : Below w.heap.size w (w3.setCell ⟨w.heap.size + 1, 1, none⟩ (.int .i64 c)) := below_set z3 (Nat.le_succ _)
  have hA4 : (w3.setCell ⟨w.heap.size + 1, 1, none⟩ (.int .i64 c)).heap[w.heap.size + 1]? = some (.cells #[.int .i64 kd, .int .i64 c] 23 (0, 0)) := by
    refine blk_put (cs := #[.int .i64 kd, .int .i64 0]) ?_ 1 _ rfl
    exact hA3
  have hB4 : (w3.setCell ⟨w.heap.size + 1, 1, none⟩ (.int .i64 c)).heap[w.heap.size]? = some (.cells #[.int .i64 0, .int .i64 0] 23 (0, 0)) :=
    (Below.heap_setCell w3 ⟨w.heap.size + 1, 1, none⟩ (.int .i64 c) w.heap.size (by simp)).trans hB3
  clear hA0 hA1 hAf0 hAf1 z3 hA3 hB3
  refine (ht _ (HT.below z4)).mono ?_
  rintro e w5 ⟨rfl, b5⟩
  have hA5 := (b5.block (w.heap.size + 1) (Array.getElem?_eq_some_iff.1 hA4).1).trans hA4
  have hB5 := (b5.block w.heap.size (Array.getElem?_eq_some_iff.1 hB4).1).trans hB4
  have z5 : Below w.heap.size w w5 := z4.trans (b5.mono z4.size)
  clear hA4 hB4 z4 b5
  have hA0 := (blk_cell hA5 0).trans rfl
  have hA1 := (blk_cell hA5 1).trans rfl
  have hB0 := (blk_cell hB5 0).trans rfl
  have hB1 := (blk_cell hB5 1).trans rfl
  have hBf0 := blk_frozen hB5 0
  have hBf1 := blk_frozen hB5 1
  go_wp2_with (fail)
  refine bodyPost_ret (results_ct rfl _ _ w.heap.size 23 #[.int .i64 kd, .int .i64 c] (0, 0) _ rfl (by refine blk_put (cs := #[.int .i64 kd, .int .i64 0]) ?_ 1 _ rfl; refine blk_put (cs := #[.int .i64 0, .int .i64 0]) ?_ 0 _ rfl; exact hB5) Tryd.underlying23 rfl (by kernel_rfl)) rfl ?_
  exact ⟨rfl, below_set (below_set z5 (Nat.le_refl _)) (Nat.le_refl _)⟩

set_option maxHeartbeats 1000000 in
set_option maxRecDepth 100000 in
theorem read_less_err (S W0 R0 T : ByteArray) (kd c e0 : Int) (hS : S.size < 4294967281) (hcut : Lib.cut S.data.toList [32] = (W0.data.toList, R0.data.toList, false)) (hidx : Lib.idxOfS (namesBA.take 16) W0 = kd) (w : World) (HT : Tab w) (he : (e0 != 0) = true) (hc0 : c = 0)
    (ht : ∀ w', Tab w' → TextOk kd c w' T e0) : ReadOk S w 0 0 8 := by
  unfold ReadOk
  subst hc0
  obtain ⟨m, hm⟩ := HT.mx
  have hm' : ∀ o : Obj, (w.alloc o).cell? ⟨3, 0, none⟩ = some (.int .i64 m) := fun o => keepC hm ((Below.refl _ w).alloc (Nat.le_refl _) o)
  have h0 : 0 < w.heap.size := HT.pos
  go_enter Tryd.func10, Tryd.ntmps10
  go_wp2_with (fail)
  refine (Tryd.strings_Cut S ⟨#[32]⟩ m _ hS (hm' _)).mono ?_
  rintro e w1 ⟨rfl, n1, rfl⟩
  have e1 : Lib.cut S.data.toList (⟨#[32]⟩ : ByteArray).data.toList = (W0.data.toList, R0.data.toList, false) := hcut
  simp only [e1]
  clear e1 hcut
  go_wp2_with (fail)
  have hgw : Below w.heap.size w (w.alloc (.cells #[.int .i64 0, .int .i64 0] 23)) := (Below.refl _ w).alloc (Nat.le_refl _) _
  refine (Tryd.slices_Index_string 0 0 16 16 namesBA W0 _ (by decide) (by decide) (fun j hj => by
    have hj' : j < 16 := hj
    rw [Nat.zero_add]
    have h1 := (HT.nm.below hgw h0) j hj'
    refine h1.trans ?_
    unfold nameB namesBA
    rw [List.getD_eq_getElem?_getD, List.getD_eq_getElem?_getD, List.getElem?_map, List.getElem?_eq_getElem (show j < nameL.length from hj')]
    rfl)).mono ?_
  rintro e w2 ⟨rfl, rfl⟩
  simp only [hidx]
  clear hidx
  go_wp2_with (fail)
  have zz : Below w.heap.size w (((w.alloc (.cells #[.int .i64 0, .int .i64 0] 23)).drewN n1).alloc (.cells #[.int .i64 kd, .int .i64 0] 23)) := (pw_below_drewN hgw n1).alloc (by simp) _
  have hA : (((w.alloc (.cells #[.int .i64 0, .int .i64 0] 23)).drewN n1).alloc (.cells #[.int .i64 kd, .int .i64 0] 23)).heap[w.heap.size + 1]? = some (.cells #[.int .i64 kd, .int .i64 0] 23 (0, 0)) := by
    have := heap_alloc_new ((w.alloc (.cells #[.int .i64 0, .int .i64 0] 23)).drewN n1) (.cells #[.int .i64 kd, .int .i64 0] 23 (0, 0))
    simpa using this
  have hB : (((w.alloc (.cells #[.int .i64 0, .int .i64 0] 23)).drewN n1).alloc (.cells #[.int .i64 kd, .int .i64 0] 23)).heap[w.heap.size]? = some (.cells #[.int .i64 0, .int .i64 0] 23 (0, 0)) := by
    refine (heap_alloc_old ((w.alloc (.cells #[.int .i64 0, .int .i64 0] 23)).drewN n1) _ (show w.heap.size < _ by simp)).trans ?_
    exact heap_alloc_new w _
  have z4 := zz
  have hA4 := hA
  have hB4 := hB
  clear zz hA hB hgw hm'
  refine (ht _ (HT.below z4)).mono ?_
  rintro e w5 ⟨rfl, b5⟩
  have hA5 := (b5.block (w.heap.size + 1) (Array.getElem?_eq_some_iff.1 hA4).1).trans hA4
  have hB5 := (b5.block w.heap.size (Array.getElem?_eq_some_iff.1 hB4).1).trans hB4
  have z5 : Below w.heap.size w w5 := z4.trans (b5.mono z4.size)
  clear hA4 hB4 z4 b5
  have hA0 := (blk_cell hA5 0).trans rfl
  have hA1 := (blk_cell hA5 1).trans rfl
  have hB0 := (blk_cell hB5 0).trans rfl
  have hB1 := (blk_cell hB5 1).trans rfl
  have hBf0 := blk_frozen hB5 0
  have hBf1 := blk_frozen hB5 1
  go_wp2_with (fail)
  refine bodyPost_ret (results_ct rfl _ _ w.heap.size 23 #[.int .i64 0, .int .i64 0] (0, 0) _ rfl (by refine blk_put (cs := #[.int .i64 0, .int .i64 0]) ?_ 1 _ rfl; refine blk_put (cs := #[.int .i64 0, .int .i64 0]) ?_ 0 _ rfl; exact hB5) Tryd.underlying23 rfl (by kernel_rfl)) rfl ?_
  exact ⟨rfl, below_set (below_set z5 (Nat.le_refl _)) (Nat.le_refl _)⟩

set_option maxHeartbeats 1000000 in
set_option maxRecDepth 100000 in
theorem read_less_ne (S W0 R0 T : ByteArray) (kd c e0 : Int) (hS : S.size < 4294967281) (hcut : Lib.cut S.data.toList [32] = (W0.data.toList, R0.data.toList, false)) (hidx : Lib.idxOfS (namesBA.take 16) W0 = kd) (w : World) (HT : Tab w) (he : e0 = 0) (hts : (T.toList == S.toList) = false) (hc0 : c = 0)
    (ht : ∀ w', Tab w' → TextOk kd c w' T e0) : ReadOk S w 0 0 8 := by
  unfold ReadOk
  subst hc0
  subst he
  obtain ⟨m, hm⟩ := HT.mx
  have hm' : ∀ o : Obj, (w.alloc o).cell? ⟨3, 0, none⟩ = some (.int .i64 m) := fun o => keepC hm ((Below.refl _ w).alloc (Nat.le_refl _) o)
  have h0 : 0 < w.heap.size := HT.pos
  go_enter Tryd.func10, Tryd.ntmps10
  go_wp2_with (fail)
  refine (Tryd.strings_Cut S ⟨#[32]⟩ m _ hS (hm' _)).mono ?_
  rintro e w1 ⟨rfl, n1, rfl⟩
  have e1 : Lib.cut S.data.toList (⟨#[32]⟩ : ByteArray).data.toList = (W0.data.toList, R0.data.toList, false) := hcut
  simp only [e1]
  clear e1 hcut
  go_wp2_with (fail)
  have hgw : Below w.heap.size w (w.alloc (.cells #[.int .i64 0, .int .i64 0] 23)) := (Below.refl _ w).alloc (Nat.le_refl _) _
  refine (Tryd.slices_Index_string 0 0 16 16 namesBA W0 _ (by decide) (by decide) (fun j hj => by
    have hj' : j < 16 := hj
    rw [Nat.zero_add]
    have h1 := (HT.nm.below hgw h0) j hj'
    refine h1.trans ?_
    unfold nameB namesBA
    rw [List.getD_eq_getElem?_getD, List.getD_eq_getElem?_getD, List.getElem?_map, List.getElem?_eq_getElem (show j < nameL.length from hj')]
    rfl)).mono ?_
  rintro e w2 ⟨rfl, rfl⟩
  simp only [hidx]
  clear hidx
  go_wp2_with (fail)
  have zz : Below w.heap.size w (((w.alloc (.cells #[.int .i64 0, .int .i64 0] 23)).drewN n1).alloc (.cells #[.int .i64 kd, .int .i64 0] 23)) := (pw_below_drewN hgw n1).alloc (by simp) _
  have hA : (((w.alloc (.cells #[.int .i64 0, .int .i64 0] 23)).drewN n1).alloc (.cells #[.int .i64 kd, .int .i64 0] 23)).heap[w.heap.size + 1]? = some (.cells #[.int .i64 kd, .int .i64 0] 23 (0, 0)) := by
    have := heap_alloc_new ((w.alloc (.cells #[.int .i64 0, .int .i64 0] 23)).drewN n1) (.cells #[.int .i64 kd, .int .i64 0] 23 (0, 0))
    simpa using this
  have hB : (((w.alloc (.cells #[.int .i64 0, .int .i64 0] 23)).drewN n1).alloc (.cells #[.int .i64 kd, .int .i64 0] 23)).heap[w.heap.size]? = some (.cells #[.int .i64 0, .int .i64 0] 23 (0, 0)) := by
    refine (heap_alloc_old ((w.alloc (.cells #[.int .i64 0, .int .i64 0] 23)).drewN n1) _ (show w.heap.size < _ by simp)).trans ?_
    exact heap_alloc_new w _
  have z4 := zz
  have hA4 := hA
  have hB4 := hB
  clear zz hA hB hgw hm'
  refine (ht _ (HT.below z4)).mono ?_
  rintro e w5 ⟨rfl, b5⟩
  have hA5 := (b5.block (w.heap.size + 1) (Array.getElem?_eq_some_iff.1 hA4).1).trans hA4
  have hB5 := (b5.block w.heap.size (Array.getElem?_eq_some_iff.1 hB4).1).trans hB4
  have z5 : Below w.heap.size w w5 := z4.trans (b5.mono z4.size)
  clear hA4 hB4 z4 b5
  have hA0 := (blk_cell hA5 0).trans rfl
  have hA1 := (blk_cell hA5 1).trans rfl
  have hB0 := (blk_cell hB5 0).trans rfl
  have hB1 := (blk_cell hB5 1).trans rfl
  have hBf0 := blk_frozen hB5 0
  have hBf1 := blk_frozen hB5 1
  go_wp2_with (fail)
  refine bodyPost_ret (results_ct rfl _ _ w.heap.size 23 #[.int .i64 0, .int .i64 0] (0, 0) _ rfl (by refine blk_put (cs := #[.int .i64 0, .int .i64 0]) ?_ 1 _ rfl; refine blk_put (cs := #[.int .i64 0, .int .i64 0]) ?_ 0 _ rfl; exact hB5) Tryd.underlying23 rfl (by kernel_rfl)) rfl ?_
  exact ⟨rfl, below_set (below_set z5 (Nat.le_refl _)) (Nat.le_refl _)⟩

set_option maxHeartbeats 1000000 in
set_option maxRecDepth 100000 in
theorem read_less_eq (S W0 R0 T : ByteArray) (kd c e0 : Int) (hS : S.size < 4294967281) (hcut : Lib.cut S.data.toList [32] = (W0.data.toList, R0.data.toList, false)) (hidx : Lib.idxOfS (namesBA.take 16) W0 = kd) (w : World) (HT : Tab w) (he : e0 = 0) (hts : (T.toList == S.toList) = true) (hc0 : c = 0)
    (ht : ∀ w', Tab w' → TextOk kd c w' T e0) : ReadOk S w kd c 0 := by
  unfold ReadOk
  subst hc0
  subst he
  obtain ⟨m, hm⟩ := HT.mx
  have hm' : ∀ o : Obj, (w.alloc o).cell? ⟨3, 0, none⟩ = some (.int .i64 m) := fun o => keepC hm ((Below.refl _ w).alloc (Nat.le_refl _) o)
  have h0 : 0 < w.heap.size := HT.pos
  go_enter Tryd.func10, Tryd.ntmps10
  go_wp2_with (fail)
  refine (Tryd.strings_Cut S ⟨#[32]⟩ m _ hS (hm' _)).mono ?_
  rintro e w1 ⟨rfl, n1, rfl⟩
  have e1 : Lib.cut S.data.toList (⟨#[32]⟩ : ByteArray).data.toList = (W0.data.toList, R0.data.toList, false) := hcut
  simp only [e1]
  clear e1 hcut
  go_wp2_with (fail)
  have hgw : Below w.heap.size w (w.alloc (.cells #[.int .i64 0, .int .i64 0] 23)) := (Below.refl _ w).alloc (Nat.le_refl _) _
  refine (Tryd.slices_Index_string 0 0 16 16 namesBA W0 _ (by decide) (by decide) (fun j hj => by
    have hj' : j < 16 := hj
    rw [Nat.zero_add]
    have h1 := (HT.nm.below hgw h0) j hj'
    refine h1.trans ?_
    unfold nameB namesBA
    rw [List.getD_eq_getElem?_getD, List.getD_eq_getElem?_getD, List.getElem?_map, List.getElem?_eq_getElem (show j < nameL.length from hj')]
    rfl)).mono ?_
  rintro e w2 ⟨rfl, rfl⟩
  simp only [hidx]
  clear hidx
  go_wp2_with (fail)
  have zz : Below w.heap.size w (((w.alloc (.cells #[.int .i64 0, .int .i64 0] 23)).drewN n1).alloc (.cells #[.int .i64 kd, .int .i64 0] 23)) := (pw_below_drewN hgw n1).alloc (by simp) _
  have hA : (((w.alloc (.cells #[.int .i64 0, .int .i64 0] 23)).drewN n1).alloc (.cells #[.int .i64 kd, .int .i64 0] 23)).heap[w.heap.size + 1]? = some (.cells #[.int .i64 kd, .int .i64 0] 23 (0, 0)) := by
    have := heap_alloc_new ((w.alloc (.cells #[.int .i64 0, .int .i64 0] 23)).drewN n1) (.cells #[.int .i64 kd, .int .i64 0] 23 (0, 0))
    simpa using this
  have hB : (((w.alloc (.cells #[.int .i64 0, .int .i64 0] 23)).drewN n1).alloc (.cells #[.int .i64 kd, .int .i64 0] 23)).heap[w.heap.size]? = some (.cells #[.int .i64 0, .int .i64 0] 23 (0, 0)) := by
    refine (heap_alloc_old ((w.alloc (.cells #[.int .i64 0, .int .i64 0] 23)).drewN n1) _ (show w.heap.size < _ by simp)).trans ?_
    exact heap_alloc_new w _
  have z4 := zz
  have hA4 := hA
  have hB4 := hB
  clear zz hA hB hgw hm'
  refine (ht _ (HT.below z4)).mono ?_
  rintro e w5 ⟨rfl, b5⟩
  have hA5 := (b5.block (w.heap.size + 1) (Array.getElem?_eq_some_iff.1 hA4).1).trans hA4
  have hB5 := (b5.block w.heap.size (Array.getElem?_eq_some_iff.1 hB4).1).trans hB4
  have z5 : Below w.heap.size w w5 := z4.trans (b5.mono z4.size)
  clear hA4 hB4 z4 b5
  have hA0 := (blk_cell hA5 0).trans rfl
  have hA1 := (blk_cell hA5 1).trans rfl
  have hB0 := (blk_cell hB5 0).trans rfl
  have hB1 := (blk_cell hB5 1).trans rfl
  have hBf0 := blk_frozen hB5 0
  have hBf1 := blk_frozen hB5 1
  go_wp2_with (fail)
  refine bodyPost_ret (results_ct rfl _ _ w.heap.size 23 #[.int .i64 kd, .int .i64 0] (0, 0) _ rfl (by refine blk_put (cs := #[.int .i64 kd, .int .i64 0]) ?_ 1 _ rfl; refine blk_put (cs := #[.int .i64 0, .int .i64 0]) ?_ 0 _ rfl; exact hB5) Tryd.underlying23 rfl (by kernel_rfl)) rfl ?_
  exact ⟨rfl, below_set (below_set z5 (Nat.le_refl _)) (Nat.le_refl _)⟩

def keys_Read.f (k : Nat) (a0 : ByteArray) : Option (Int × Int × Int) :=
  if a0.size < 4294967281 then
    (let x := Lib.cut a0.data.toList [32]
     let kd := Lib.idxOfS (namesBA.take 16) ⟨x.1.toArray⟩
     let c := if x.2.2 = true then atoiV x.2.1 else 0
     (keys_Text.f k kd c).bind fun t => if t.2 = 0 then (if t.1 = a0 then some (kd, c, 0) else some (0, 0, 8)) else some (0, 0, 8))
  else none
theorem keys_Read.mono : ∀ a0 k, LeO (keys_Read.f k a0) (keys_Read.f (k + 1) a0) := by
  intro a0 k
  unfold keys_Read.f
  split
  · exact LeO.bind (keys_Text.mono _ _ _) (fun _ => LeO.refl _)
  · exact LeO.refl _
theorem mem_len {α : Type} {l : List α} {n : Nat} : (l.drop n).length ≤ l.length := by simp
theorem cut_small (s sep : List UInt8) : (Lib.cut s sep).2.1.length ≤ s.length := by
  unfold Lib.cut
  split
  · simp
  · simp
theorem toList_beq (a b : ByteArray) : (a.toList == b.toList) = decide (a = b) := by
  rw [ByteArray.toList_eq, ByteArray.toList_eq]
  by_cases h : a = b
  · subst h; simp
  · rw [decide_eq_false h, beq_eq_false_iff_ne]
    intro e
    exact h (Go.WideShapes.bytes_inj e)
theorem keys_Read.calls (k : Nat) (a0 : ByteArray) (r1 r2 r3 : Int) (w : World) (HT : Tab w) (h : keys_Read.f k a0 = some (r1, r2, r3)) :
    Calls Tryd.prog 10 #[.string a0] w fun e w' => e = .returned (.tuple #[.agg #[.int .i64 r1, .int .i64 r2], .int .i64 r3]) ∧ Below w.heap.size w w' := by
  show ReadOk a0 w r1 r2 r3
  unfold keys_Read.f at h
  by_cases hs : a0.size < 4294967281
  · rw [if_pos hs] at h
    have hsm := cut_small a0.data.toList [32]
    obtain ⟨⟨W0l, R0l, more⟩, hcut⟩ : ∃ x, Lib.cut a0.data.toList [32] = x := ⟨_, rfl⟩
    rw [hcut] at h hsm
    simp only at h hsm
    have hR : (⟨R0l.toArray⟩ : ByteArray).size ≤ 281474976710656 := by
      show R0l.toArray.size ≤ _
      have : a0.data.toList.length = a0.size := by simp
      simp
      omega
    obtain ⟨kd, hidx⟩ : ∃ x, Lib.idxOfS (namesBA.take 16) ⟨W0l.toArray⟩ = x := ⟨_, rfl⟩
    rw [hidx] at h
    obtain ⟨⟨T, e0⟩, ht0, h⟩ := Option.bind_eq_some_iff.mp h
    simp only at h
    have ht : ∀ w', Tab w' → TextOk kd (if more = true then atoiV R0l else 0) w' T e0 := fun w' HT' => keys_Text.calls k _ _ T e0 w' HT' ht0
    have hcut' : Lib.cut a0.data.toList [32] = ((⟨W0l.toArray⟩ : ByteArray).data.toList, (⟨R0l.toArray⟩ : ByteArray).data.toList, more) := by rw [hcut]
    cases more with
    | true =>
      rw [if_pos rfl] at h ht
      have hat : ∀ w', Tab w' → Calls Tryd.prog 26 #[.string ⟨R0l.toArray⟩] w' fun e w'' => ∃ ev, e = .returned (.tuple #[.int .i64 (atoiV R0l), ev]) ∧ Below w'.heap.size w' w'' := fun w' HT' => atoi_any ⟨R0l.toArray⟩ hR w' HT'
      by_cases he : e0 = 0
      · rw [if_pos he] at h
        by_cases hT : T = a0
        · rw [if_pos hT] at h
          simp only [Option.some.injEq, Prod.mk.injEq] at h
          obtain ⟨rfl, rfl, rfl⟩ := h
          exact read_more_eq a0 _ _ T _ _ e0 hs hcut' hidx w HT he (by rw [toList_beq]; simpa using hT) hat ht
        · rw [if_neg hT] at h
          simp only [Option.some.injEq, Prod.mk.injEq] at h
          obtain ⟨rfl, rfl, rfl⟩ := h
          exact read_more_ne a0 _ _ T _ _ e0 hs hcut' hidx w HT he (by rw [toList_beq]; simpa using hT) hat ht
      · rw [if_neg he] at h
        simp only [Option.some.injEq, Prod.mk.injEq] at h
        obtain ⟨rfl, rfl, rfl⟩ := h
        exact read_more_err a0 _ _ T _ _ e0 hs hcut' hidx w HT (by simpa using he) hat ht
    | false =>
      rw [if_neg (show ¬ (false = true) by decide)] at h ht
      by_cases he : e0 = 0
      · rw [if_pos he] at h
        by_cases hT : T = a0
        · rw [if_pos hT] at h
          simp only [Option.some.injEq, Prod.mk.injEq] at h
          obtain ⟨rfl, rfl, rfl⟩ := h
          exact read_less_eq a0 _ _ T _ 0 e0 hs hcut' hidx w HT he (by rw [toList_beq]; simpa using hT) rfl ht
        · rw [if_neg hT] at h
          simp only [Option.some.injEq, Prod.mk.injEq] at h
          obtain ⟨rfl, rfl, rfl⟩ := h
          exact read_less_ne a0 _ _ T _ 0 e0 hs hcut' hidx w HT he (by rw [toList_beq]; simpa using hT) rfl ht
      · rw [if_neg he] at h
        simp only [Option.some.injEq, Prod.mk.injEq] at h
        obtain ⟨rfl, rfl, rfl⟩ := h
        exact read_less_err a0 _ _ T _ 0 e0 hs hcut' hidx w HT (by simpa using he) rfl ht
  · rw [if_neg hs] at h
    cases h

end Go.Proofs.YtanlgkmijegefaaDoor.Hand
