/- The document's Read. -/
import Derived.Test.YtbiogabekhegaaaGreatDoorHandBytes07
import Derived.Test.YtbiogabekhegaaaGreatDoorPlainRef07
namespace Go.Proofs.YtbiogabekhegaaaGreatDoor.Hand
open Go.RowKit Go.Proofs.YtbiogabekhegaaaGreatDoorW.PrintWords Go.Proofs.YtbiogabekhegaaaGreatDoorW.PrintLast
open Go.Proofs.YtbiogabekhegaaaGreatDoor.PWritten (S27 S25 k27 z27 rd_T27 at_T27 k27_mk)
set_option linter.unusedVariables false
set_option linter.unusedSimpArgs false
/-- What stands in memory. -/
structure RrW (w W : World) (g2 g5 g6 gs : Nat) (L : List ByteArray) (x : Eff) (v : Value) : Prop where
  b : Below w.heap.size w W
  r : W.heap[g2]? = some (.cells (effC Eff.zero (.slice none 0 0)) 27 (0, 0))
  e : W.heap[g5]? = some (.cells (effC x v) 27 (0, 0))
  z : W.heap[g6]? = some (.cells (effC Eff.zero (.slice none 0 0)) 27 (0, 0))
  s : ∀ (j : Nat) y, L[j]? = some y → W.cell? ⟨gs, 0 + j, none⟩ = some (.string y)
  ls : gs < W.heap.size
  l2 : w.heap.size ≤ g2
  l5 : w.heap.size ≤ g5
  ne : g2 ≠ g5 ∧ g6 ≠ g5 ∧ g2 ≠ g6 ∧ gs ≠ g2 ∧ gs ≠ g5 ∧ gs ≠ g6
theorem RrW.below {w W W' : World} {g2 g5 g6 gs : Nat} {L : List ByteArray} {x : Eff} {v : Value} (h : RrW w W g2 g5 g6 gs L x v) (hb : Below W.heap.size W W') : RrW w W' g2 g5 g6 gs L x v :=
  ⟨h.b.trans (hb.mono h.b.size), (hb.block _ (blk_lt h.r)).trans h.r, (hb.block _ (blk_lt h.e)).trans h.e, (hb.block _ (blk_lt h.z)).trans h.z, fun j y hj => cell_stays (h.s j y hj) hb, Nat.lt_of_lt_of_le h.ls hb.size, h.l2, h.l5, h.ne⟩
theorem RrW.put {w W : World} {g2 g5 g6 gs : Nat} {L : List ByteArray} {x y : Eff} {v v' : Value} (h : RrW w W g2 g5 g6 gs L x v) (i : Nat) (u : Value) (he : (effC x v).setIfInBounds i u = effC y v') : RrW w (W.setCell ⟨g5, i, none⟩ u) g2 g5 g6 gs L y v' :=
  let hg := grown_set W ⟨g5, i, none⟩ u
  ⟨set_below h.b h.l5 i u, (hg.block g2 (blk_lt h.r) (fun e => h.ne.1 (Option.some.inj e))).trans h.r, blk_put h.e i u he, (hg.block g6 (blk_lt h.z) (fun e => h.ne.2.1 (Option.some.inj e))).trans h.z,
    fun j y hj => (hg.cell_far ⟨gs, 0 + j, none⟩ h.ls (fun e => h.ne.2.2.2.2.1 (Option.some.inj e))).trans (h.s j y hj), Nat.lt_of_lt_of_le h.ls hg.size, h.l2, h.l5, h.ne⟩
theorem RrW.finish {w W : World} {g5 g6 gs : Nat} {L : List ByteArray} {x : Eff} {v : Value} (h : RrW w W w.heap.size g5 g6 gs L x v) (Y : Eff) (A : Option Addr) (c : Nat) (er : Int) (hR : Kd.R (Kd.int .u8) 5 W (w.heap.size + 1) (fun _ => True) (.slice A Y.d.length c) Y.d) (hc : Y.d.length ≤ c) :
    RdS w (effS Y) er (.returned (.tuple #[.agg (effC Y (.slice A Y.d.length c)), .int .i64 er])) (((((((W.setCell ⟨w.heap.size, 0, none⟩ (.int .i64 Y.k)).setCell ⟨w.heap.size, 1, none⟩ (.int .u32 Y.fl)).setCell ⟨w.heap.size, 2, none⟩ (.int .u8 Y.mn)).setCell ⟨w.heap.size, 3, none⟩ (.int .u8 Y.tm)).setCell ⟨w.heap.size, 4, none⟩ (.slice A Y.d.length c)).setCell ⟨w.heap.size, 5, none⟩ (.int .i64 Y.n)).setCell ⟨w.heap.size, 6, none⟩ (.bool Y.ok)) :=
  ⟨A, c, rfl, set7_R hR _ _ _ _ _ _ _, hc, set7_below h.b h.l2 _ _ _ _ _ _ _⟩
theorem RrW.finish0 {w W : World} {g5 g6 gs : Nat} {L : List ByteArray} {x : Eff} {v : Value} (h : RrW w W w.heap.size g5 g6 gs L x v) (Y : Eff) (hd : Y.d = []) (er : Int) :
    RdS w (effS Y) er (.returned (.tuple #[.agg (effC Y (.slice none 0 0)), .int .i64 er])) (((((((W.setCell ⟨w.heap.size, 0, none⟩ (.int .i64 Y.k)).setCell ⟨w.heap.size, 1, none⟩ (.int .u32 Y.fl)).setCell ⟨w.heap.size, 2, none⟩ (.int .u8 Y.mn)).setCell ⟨w.heap.size, 3, none⟩ (.int .u8 Y.tm)).setCell ⟨w.heap.size, 4, none⟩ (.slice none 0 0)).setCell ⟨w.heap.size, 5, none⟩ (.int .i64 Y.n)).setCell ⟨w.heap.size, 6, none⟩ (.bool Y.ok)) := by
  obtain ⟨a, b, c, d, l, n, o⟩ := Y
  obtain rfl : l = [] := hd
  exact h.finish ⟨a, b, c, d, [], n, o⟩ none 0 er (Kd.R_nil _ _ _ _ _) (Nat.le_refl _)
set_option maxHeartbeats 8000000 in
set_option maxRecDepth 100000 in
theorem refRd_0 (s : ByteArray) (hs : s.size ≤ 2000) (w0 : ByteArray) (r : List ByteArray) (hp : pieces 32 s = w0 :: r) (hkA : Aside0 (w0 = kWord 0)) (w : World) : Calls Tryz.prog 14 #[.string s] w (RdS w (readS s.data.toList).1 (readS s.data.toList).2) := by
  have HC := fun W => PCut.whispererref06_Cut.calls (s.size + 1) s 32 _ W (cut_up s 32 (s.size + 1) (by omega) (by omega))
  rw [hp] at HC
  have hrl : r.length ≤ 2000 := by
    have := pieces_length 32 s
    rw [hp, List.length_cons] at this
    omega
  have hps : pieces 32 (ba s.data.toList) = w0 :: r := by rw [ba_data]; exact hp
  have hz : ∀ y ∈ r, y.size ≤ s.size := fun y hy => pieces_size 32 s y (by rw [hp]; exact List.mem_cons_of_mem _ hy)
  have hone := fun e : r = [] => pieces_one (w0 := w0) (s := s) (by rw [hp, e])
  have hA := Aside0.mk (And.intro hps (And.intro hz (And.intro hone hp)))
  have hCA := Aside0.mk HC
  clear HC hps hz hone hp
  go_enter Tryz.func14, Tryz.ntmps14
  go_wp2_with (fail)
  refine (hCA.out _).mono ?_
  rintro e w1 ⟨v, rfl, hR, hb1⟩
  have hR0 := Aside0.mk hR
  have hb0 := Aside0.mk hb1
  clear hR hb1 hCA
  go_upto_region 5 with (fail)
  obtain ⟨gs, cp, rfl, hgs, hgl, _⟩ := Kd.R_form hR0.out (by simp)
  obtain ⟨-, -, hC⟩ := Kd.R_reads' hR0.out
  have hsz : (w.alloc (.cells #[.int .i64 0, .int .u32 0, .int .u8 0, .int .u8 0, .slice none 0 0, .int .i64 0, .bool false] 27)).heap.size = w.heap.size + 1 := by simp
  have hz1 : ((w1.alloc (.cells #[.int .i64 0, .int .u32 0, .int .u8 0, .int .u8 0, .slice none 0 0, .int .i64 0, .bool false] 27))).heap.size = w1.heap.size + 1 := by simp
  have hb2 : Below w.heap.size w w1 := ((Below.refl _ w).alloc (Nat.le_refl _) _).trans (hb0.out.mono (by rw [hsz]; omega))
  have hb3 : Below w1.heap.size w1 ((w1.alloc (.cells #[.int .i64 0, .int .u32 0, .int .u8 0, .int .u8 0, .slice none 0 0, .int .i64 0, .bool false] 27)).alloc (.cells #[.int .i64 0, .int .u32 0, .int .u8 0, .int .u8 0, .slice none 0 0, .int .i64 0, .bool false] 27)) := ((Below.refl _ w1).alloc (Nat.le_refl _) _).alloc (by rw [hz1]; omega) _
  have hsl := hb0.out.size
  rw [hsz] at hgs hsl
  have hW := Aside0.mk (RrW.mk (w := w) (g2 := w.heap.size) (g5 := w1.heap.size) (g6 := w1.heap.size + 1) (gs := gs) (L := w0 :: r) (x := Eff.zero) (v := .slice none 0 0) (hb2.trans (hb3.mono hb2.size))
    ((hb3.block _ (by omega)).trans ((hb0.out.block _ (by rw [hsz]; omega)).trans (heap_alloc_new w _)))
    ((heap_alloc_old _ _ (by rw [hz1]; omega)).trans (heap_alloc_new w1 _))
    (by have := heap_alloc_new (w1.alloc (.cells #[.int .i64 0, .int .u32 0, .int .u8 0, .int .u8 0, .slice none 0 0, .int .i64 0, .bool false] 27)) (.cells #[.int .i64 0, .int .u32 0, .int .u8 0, .int .u8 0, .slice none 0 0, .int .i64 0, .bool false] 27); rw [hz1] at this; exact this)
    (fun j y hj => cell_stays (cells_of hC rfl j y hj) hb3) (Nat.lt_of_lt_of_le hgl hb3.size) (Nat.le_refl _) hb2.size ⟨by omega, by omega, by omega, by omega, by omega, by omega⟩)
  clear hC hsz hz1 hb2 hb3 hsl hb0 hR0 hgs hgl
  generalize (w1.alloc _).alloc _ = W at *
  generalize w1.heap.size = g5 at *
  have hrn : (w0 :: r).length = r.length + 1 := rfl
  rw [hrn]
  by_cases hE : s = ⟨#[101, 110, 100]⟩
  · have hf0 := readS_some (l := s.data.toList) (w0 := kWord 5) (r := []) (by rw [ba_data, hE]; exact pieces_end) w7_end
    subst hE
    have hfin := Aside0.mk hf0
    clear hf0
    obtain ⟨⟨c0, -, -, -, -, -, -⟩, d0, -, -, -, -, -, -⟩ := eff_cells hW.out.e
    go_upto_region 7 with (fail)
    have hW2 := Aside0.mk (hW.out.put (y := ⟨5, 0, 0, 0, [], 0, false⟩) (v' := .slice none 0 0) 0 (.int .i64 5) rfl)
    clear c0 d0 hW 
    generalize W.setCell _ _ = W2 at *
    obtain ⟨⟨a0, a1, a2, a3, a4, a5, a6⟩, f0, f1, f2, f3, f4, f5, f6⟩ := eff_cells hW2.out.r
    obtain ⟨⟨c0, c1, c2, c3, c4, c5, c6⟩, -⟩ := eff_cells hW2.out.e
    go_wp2_with (fail)
    refine bodyPost_ret (results_ct rfl _ _ w.heap.size 27 (effC ⟨5, 0, 0, 0, [], 0, false⟩ (.slice none 0 0)) (0, 0) _ rfl (by exact blk7 hW2.out.r _ _ _ _ _ _ _) Tryz.underlying27 rfl (by kernel_rfl)) rfl ?_
    rw [hfin.out]
    exact hW2.out.finish0 _ rfl _
  by_cases hH : s = ⟨#[104, 105, 115, 116, 111, 114, 121]⟩
  · have hf0 := readS_some (l := s.data.toList) (w0 := kWord 6) (r := []) (by rw [ba_data, hH]; exact pieces_history) w7_history
    subst hH
    clear hE
    have hfin := Aside0.mk hf0
    clear hf0
    obtain ⟨⟨c0, -, -, -, -, -, -⟩, d0, -, -, -, -, -, -⟩ := eff_cells hW.out.e
    go_upto_region 7 with (fail)
    have hW2 := Aside0.mk (hW.out.put (y := ⟨5, 0, 0, 0, [], 0, false⟩) (v' := .slice none 0 0) 0 (.int .i64 5) rfl)
    clear c0 d0 hW 
    generalize W.setCell _ _ = W2 at *
    obtain ⟨⟨c0, -, -, -, -, -, -⟩, d0, -, -, -, -, -, -⟩ := eff_cells hW2.out.e
    go_upto_region 9 with (fail)
    have hW3 := Aside0.mk (hW2.out.put (y := ⟨6, 0, 0, 0, [], 0, false⟩) (v' := .slice none 0 0) 0 (.int .i64 6) rfl)
    clear c0 d0 hW2 
    generalize W2.setCell _ _ = W3 at *
    obtain ⟨⟨a0, a1, a2, a3, a4, a5, a6⟩, f0, f1, f2, f3, f4, f5, f6⟩ := eff_cells hW3.out.r
    obtain ⟨⟨c0, c1, c2, c3, c4, c5, c6⟩, -⟩ := eff_cells hW3.out.e
    go_wp2_with (fail)
    refine bodyPost_ret (results_ct rfl _ _ w.heap.size 27 (effC ⟨6, 0, 0, 0, [], 0, false⟩ (.slice none 0 0)) (0, 0) _ rfl (by exact blk7 hW3.out.r _ _ _ _ _ _ _) Tryz.underlying27 rfl (by kernel_rfl)) rfl ?_
    rw [hfin.out]
    exact hW3.out.finish0 _ rfl _
  have tE : (s.toList == [101, 110, 100]) = false := by
    have := ba_beq s ⟨#[101, 110, 100]⟩
    rw [decide_eq_false hE, show (⟨#[101, 110, 100]⟩ : ByteArray).toList = [101, 110, 100] by rw [ByteArray.toList_eq]] at this
    exact this
  have tH : (s.toList == [104, 105, 115, 116, 111, 114, 121]) = false := by
    have := ba_beq s ⟨#[104, 105, 115, 116, 111, 114, 121]⟩
    rw [decide_eq_false hH, show (⟨#[104, 105, 115, 116, 111, 114, 121]⟩ : ByteArray).toList = [104, 105, 115, 116, 111, 114, 121] by rw [ByteArray.toList_eq]] at this
    exact this
  go_upto_region 10 with (fail)
  cases r with
  | nil =>
    have hsw := hA.out.2.2.1 rfl
    have hfin := Aside0.mk (readS_none hA.out.1 (w7_one w0 (fun e => hE (hsw.trans e)) (fun e => hH (hsw.trans e))))
    clear hE hH hsw
    obtain ⟨⟨a0, a1, a2, a3, a4, a5, a6⟩, f0, f1, f2, f3, f4, f5, f6⟩ := eff_cells hW.out.r
    obtain ⟨⟨c0, c1, c2, c3, c4, c5, c6⟩, -⟩ := eff_cells hW.out.z
    go_wp2_with (fail)
    refine bodyPost_ret (results_ct rfl _ _ w.heap.size 27 (effC Eff.zero (.slice none 0 0)) (0, 0) _ rfl (by exact blk7 hW.out.r _ _ _ _ _ _ _) Tryz.underlying27 rfl (by kernel_rfl)) rfl ?_
    rw [hfin.out]
    exact hW.out.finish0 _ rfl _
  | cons r0 r' =>
    clear hE hH tE tH
    have hrn2 : (r0 :: r').length + 1 = r'.length + 2 := rfl
    rw [hrn2]
    have hlen := Aside0.mk (show (r0 :: r').length ≤ 2000 from hrl)
    clear hrn hrn2 hrl
    obtain ⟨last, hlast⟩ : ∃ y, (w0 :: r0 :: r')[r'.length + 1]? = some y := ⟨_, List.getElem?_eq_getElem (by simp)⟩
    have hla := Aside0.mk hlast
    clear hlast
    obtain ⟨N, hN⟩ : ∃ N, r'.length + 2 = N := ⟨_, rfl⟩
    rw [hN]
    have hNA := Aside0.mk hN
    have hN2 : decide ((N : Int) < 2) = false := decide_eq_false (by omega)
    have hNb := Aside0.mk (show N ≤ 4000 by have := hlen.out; simp only [List.length_cons] at this; omega)
    have s0 : W.cell? ⟨gs, 0, none⟩ = some (.string w0) := hW.out.s 0 _ rfl
    have s1 : W.cell? ⟨gs, 1, none⟩ = some (.string r0) := hW.out.s 1 _ rfl
    have hN0 : (0 : Int) < (N : Int) := by omega
    have hN1 : (1 : Int) < (N : Int) := by omega
    clear hN
    have bne_of : ∀ (x S : ByteArray), x ≠ S → (x.toList == S.toList) = false ∧ (x.toList != S.toList) = true := fun x S h => by
      have e := ba_beq x S
      rw [decide_eq_false h] at e
      exact ⟨e, by rw [bne, e]; rfl⟩
    have beq_of : ∀ (x S : ByteArray), x = S → (x.toList == S.toList) = true ∧ (x.toList != S.toList) = false := fun x S h => by
      have e := ba_beq x S
      rw [decide_eq_true h] at e
      exact ⟨e, by rw [bne, e]; rfl⟩
    have lit : ∀ l : List UInt8, (⟨l.toArray⟩ : ByteArray).toList = l := toList_mk
    have hbn := Aside0.mk bne_of
    have hbe := Aside0.mk beq_of
    have hlit := Aside0.mk lit
    clear bne_of beq_of lit
    by_cases hbad : w0 ≠ kWord 4 ∧ r0 ≠ okW ∧ r0 ≠ failW
    · have hfin := Aside0.mk (readS_none hA.out.1 (w7_neither w0 r0 r' hbad.1 hbad.2.1 hbad.2.2))
      obtain ⟨t1, t2⟩ := hbn.out _ _ hbad.1
      obtain ⟨t3, t4⟩ := hbn.out _ _ hbad.2.1
      obtain ⟨t5, t6⟩ := hbn.out _ _ hbad.2.2
      rw [show (kWord 4).toList = [115, 105, 103, 110, 97, 108] from hlit.out _] at t1 t2
      rw [show okW.toList = [111, 107] from hlit.out _] at t3 t4
      rw [show failW.toList = [102, 97, 105, 108] from hlit.out _] at t5 t6
      clear hbad
      obtain ⟨⟨a0, a1, a2, a3, a4, a5, a6⟩, f0, f1, f2, f3, f4, f5, f6⟩ := eff_cells hW.out.r
      obtain ⟨⟨c0, c1, c2, c3, c4, c5, c6⟩, -⟩ := eff_cells hW.out.z
      go_wp2_with (fail)
      refine bodyPost_ret (results_ct rfl _ _ w.heap.size 27 (effC Eff.zero (.slice none 0 0)) (0, 0) _ rfl (by exact blk7 hW.out.r _ _ _ _ _ _ _) Tryz.underlying27 rfl (by kernel_rfl)) rfl ?_
      rw [hfin.out]
      exact hW.out.finish0 _ rfl _
    · have hgood : w0 = kWord 4 ∨ (w0 ≠ kWord 4 ∧ r0 = okW) ∨ (w0 ≠ kWord 4 ∧ r0 ≠ okW ∧ r0 = failW) := by
        by_cases h1 : w0 = kWord 4
        · exact .inl h1
        · by_cases h2 : r0 = okW
          · exact .inr (.inl ⟨h1, h2⟩)
          · by_cases h3 : r0 = failW
            · exact .inr (.inr ⟨h1, h2, h3⟩)
            · exact absurd ⟨h1, h2, h3⟩ hbad
      have hgA := Aside0.mk hgood
      clear hgood hbad
      go_cut [45] (fun v45 wc => v45 = .bool false ∧ wc = W)
      case first =>
        rcases hgA.out with h1 | ⟨h1, h2⟩ | ⟨h1, h2, h3⟩
        · obtain ⟨t1, t2⟩ := hbe.out _ _ h1
          rw [show (kWord 4).toList = [115, 105, 103, 110, 97, 108] from hlit.out _] at t1 t2
          clear h1
          go_wp2_with (fail)
          go_meet
          case rel => exact ⟨rfl, rfl⟩
        · obtain ⟨t1, t2⟩ := hbn.out _ _ h1
          obtain ⟨t3, t4⟩ := hbe.out _ _ h2
          rw [show (kWord 4).toList = [115, 105, 103, 110, 97, 108] from hlit.out _] at t1 t2
          rw [show okW.toList = [111, 107] from hlit.out _] at t3 t4
          clear h1 h2
          go_wp2_with (fail)
          go_meet
          case rel => exact ⟨rfl, rfl⟩
        · obtain ⟨t1, t2⟩ := hbn.out _ _ h1
          obtain ⟨t3, t4⟩ := hbn.out _ _ h2
          obtain ⟨t5, t6⟩ := hbe.out _ _ h3
          rw [show (kWord 4).toList = [115, 105, 103, 110, 97, 108] from hlit.out _] at t1 t2
          rw [show okW.toList = [111, 107] from hlit.out _] at t3 t4
          rw [show failW.toList = [102, 97, 105, 108] from hlit.out _] at t5 t6
          clear h1 h2 h3
          go_wp2_with (fail)
          go_meet
          case rel => exact ⟨rfl, rfl⟩
      case rest =>
        obtain ⟨rfl, hwc⟩ := hcut
        have hwc2 := hwc.symm
        subst hwc2
        have ho : (r0.toList == okW.toList) = decide (r0 = okW) := ba_beq r0 okW
        rw [show okW.toList = [111, 107] from hlit.out _] at ho
        have hB := Aside0.mk (rfl : decide (r0 = okW) = decide (r0 = okW))
        generalize hBe : decide (r0 = okW) = B at ho
        have hBA := Aside0.mk hBe
        clear hBe hB
        obtain ⟨⟨-, -, -, -, -, -, c6⟩, -, -, -, -, -, -, d6⟩ := eff_cells hW.out.e
        go_upto_region 13 with (fail)
        have hW2 := Aside0.mk (hW.out.put (y := ⟨0, 0, 0, 0, [], 0, B⟩) (v' := .slice none 0 0) 6 (.bool B) rfl)
        clear c6 d6 hW s0 s1 ho
        generalize W.setCell _ _ = W2 at *
        obtain ⟨M, hM⟩ : ∃ M, r'.length + 1 = M := ⟨_, rfl⟩
        have hNM : N = M + 1 := by have := hNA.out; omega
        have hwN : wrap64 ((N : Int) - 1) = (M : Int) := by have := hNb.out; unfold wrap64; omega
        have hMN : (M : Int) < (N : Int) := by omega
        have hM0 : (0 : Int) ≤ (M : Int) := by omega
        have sl : W2.cell? ⟨gs, M, none⟩ = some (.string last) := by
          have := hW2.out.s (r'.length + 1) last hla.out
          rw [Nat.zero_add, hM] at this
          exact this
        have hMA := Aside0.mk hM
        have hNMA := Aside0.mk hNM
        clear hM hNM
        go_wp2_with (fail)
        refine (numb_ok last 10 18 _ (by omega) (by omega) (by omega) (by decide)).mono ?_
        rintro e w3 ⟨rfl, hb3⟩
        have hW3 := Aside0.mk (hW2.out.below hb3)
        clear hb3 hW2 sl
        generalize hV : numB 10 18 last.data.toList = V at *
        have hVA := Aside0.mk hV
        clear hV
        have s0 : w3.cell? ⟨gs, 0, none⟩ = some (.string w0) := hW3.out.s 0 _ rfl
        go_upto_region 17 with (fail)
        have hrA := Aside0.mk (show r0 = okW ∨ r0 = failW ∨ w0 = kWord 4 from hgA.out.elim (fun h => .inr (.inr h)) (fun h => h.elim (fun h => .inl h.2) (fun h => .inr (.inl h.2.2))))
        have hk0 := hkA.out
        have hwA := Aside0.mk hk0
        have hk1 : w0 ≠ kWord 1 := fun e => absurd (hk0.symm.trans e) (by decide)
        obtain ⟨x1, -⟩ := hbn.out w0 (kWord 1) hk1
        rw [show (kWord 1).toList = [119, 97, 115] from hlit.out _] at x1
        obtain ⟨x0, -⟩ := hbe.out w0 (kWord 0) hk0
        rw [show (kWord 0).toList = [103, 111, 116] from hlit.out _] at x0
        have hr1 : Aside0 (r0 = okW ∨ r0 = failW) := ⟨hrA.out.elim .inl (fun h => h.elim .inr (fun h => absurd (hk0.symm.trans h) (by decide)))⟩
        clear hk0 hk1
        by_cases h5 : N = 5
        · subst h5
          obtain ⟨a, b, c, rfl⟩ : ∃ a b c, r' = [a, b, c] := by
            have h := hNA.out
            match r', h with
            | [a, b, c], _ => exact ⟨a, b, c, rfl⟩
          have hz3 := hA.out.2.1
          have hsz : s.size = w0.size + r0.size + a.size + b.size + c.size + 4 := by
            have h9 := hA.out.1
            unfold pieces at h9
            have h8 := congrArg (fun L => L.map (·.data.toList)) h9
            simp only [map_ba, List.map_cons, List.map_nil, data_ba] at h8
            have h7 := join_split 32 s.data.toList
            rw [h8] at h7
            rw [Lib.size_eq, ← h7]
            simp only [joinB, List.length_append, List.length_cons, Lib.size_eq]
            omega
          obtain ⟨X, hX⟩ : ∃ X : ByteArray, (⟨(Lib.join ([a, b, c].map (·.data.toList)) [32]).toArray⟩ : ByteArray) = X := ⟨_, rfl⟩
          have hS : a ++ (⟨#[32]⟩ : ByteArray) ++ b ++ (⟨#[32]⟩ : ByteArray) ++ c = X := by
            rw [← hX]
            apply ba_ext
            rw [libjoin_eq]
            simp [joinB]
          have hXs : X.size ≤ 2000 := by
            rw [← hS]
            simp only [ByteArray.size_append]
            show a.size + 1 + b.size + 1 + c.size ≤ 2000
            omega
          have hq1 : a.size + 1 ≤ 9223372036854775807 := by omega
          have hq2 : a.size + 1 + b.size ≤ 9223372036854775807 := by omega
          have hq3 : a.size + 1 + b.size + 1 ≤ 9223372036854775807 := by omega
          have hq4 : a.size + 1 + b.size + 1 + c.size ≤ 9223372036854775807 := by omega
          have hRV := ref_read X hXs 300000 (Nat.le_refl _)
          obtain ⟨F, MN, TM, E, hRVe⟩ : ∃ F MN TM E, readV X = (F, MN, TM, E) := ⟨_, _, _, _, rfl⟩
          have HR : ∀ W : World, Calls Tryz.prog 34 #[.string (a ++ (⟨#[32]⟩ : ByteArray) ++ b ++ (⟨#[32]⟩ : ByteArray) ++ c)] W fun e w' => e = .returned (.tuple #[.agg #[.int .u32 F, .int .u8 MN, .int .u8 TM], .int .i64 E]) ∧ Below W.heap.size W w' := fun W => by
            rw [hS]
            exact PRead.whispererref06_Read.calls 300000 X F MN TM E W (hRV.trans (congrArg some hRVe))
          have HRA := Aside0.mk HR
          have hyes : E = 0 → readW w0 [r0, a, b, c] = some ⟨0, F, MN, TM, [], 0, B⟩ := fun e => by
            have := w7_attrs (k := 0) (by decide) (a := a) (b := b) (c := c) hr1.out (by rw [hX, hRVe]; exact e)
            rw [hX, hRVe, hBA.out] at this
            rw [hwA.out]
            exact this
          have hno : E ≠ 0 → readW w0 [r0, a, b, c] = none := fun e => by
            rw [hwA.out]
            exact w7_attrs_no (k := 0) (by decide) hr1.out (by rw [hX, hRVe]; exact e)
          have hYN := Aside0.mk (And.intro hyes hno)
          clear hz3 hsz hX hS hXs hRV hRVe HR hyes hno
          have s2 : w3.cell? ⟨gs, 2, none⟩ = some (.string a) := hW3.out.s 2 _ rfl
          have s3 : w3.cell? ⟨gs, 3, none⟩ = some (.string b) := hW3.out.s 3 _ rfl
          have s4 : w3.cell? ⟨gs, 4, none⟩ = some (.string c) := hW3.out.s 4 _ rfl
          have hW3d := Aside0.mk (hW3.out.below (below_drew1 (Below.refl _ _)))
          go_upto_region 21 with (fail)
          go_cut [9] (fun v9 wc => v9 = .int .i64 E ∧ Aside0 (RrW w wc w.heap.size g5 (g5 + 1) gs [w0, r0, a, b, c] ⟨0, F, MN, TM, [], 0, B⟩ (.slice none 0 0)))
          case first =>
            clear hYN hA hlen hNA hla hMA hNMA hVA hgA hbn hbe hlit hr1 hrA hwA x0 x1
            go_region_with (go_at_call 34; refine (HRA.out _).mono ?_; rintro e w4 ⟨rfl, hb4⟩; have hW4 := Aside0.mk (hW3d.out.below hb4); obtain ⟨⟨-, c1, c2, c3, -, -, -⟩, -, d1, d2, d3, -, -, -⟩ := eff_cells hW4.out.e)
            all_goals
              go_wp2_with (fail)
              go_meet
              case rel => exact ⟨rfl, ⟨((hW4.out.put (y := ⟨0, F, 0, 0, [], 0, B⟩) (v' := .slice none 0 0) 1 (.int .u32 F) rfl).put (y := ⟨0, F, MN, 0, [], 0, B⟩) (v' := .slice none 0 0) 2 (.int .u8 MN) rfl).put (y := ⟨0, F, MN, TM, [], 0, B⟩) (v' := .slice none 0 0) 3 (.int .u8 TM) rfl⟩⟩
          case rest =>
            obtain ⟨rfl, hW5⟩ := hcut
            clear s2 s3 s4 s0 hW3d hW3 HRA
            have s0 : wc.cell? ⟨gs, 0, none⟩ = some (.string w0) := hW5.out.s 0 _ rfl
            by_cases hE0 : E = 0
            · have hfin := Aside0.mk (readS_some hA.out.1 (hYN.out.1 hE0))
              subst hE0
              clear hYN
              obtain ⟨⟨-, -, -, -, -, c5, -⟩, -, -, -, -, -, d5, -⟩ := eff_cells hW5.out.e
              go_upto_region 41 with (fail)
              have hW7 := Aside0.mk (hW5.out.put (y := ⟨0, F, MN, TM, [], 0, B⟩) (v' := .slice none 0 0) 5 (.int .i64 0) rfl)
              clear c5 d5 hW5
              generalize wc.setCell _ _ = W7 at *
              obtain ⟨⟨a0, a1, a2, a3, a4, a5, a6⟩, f0, f1, f2, f3, f4, f5, f6⟩ := eff_cells hW7.out.r
              obtain ⟨⟨c0, c1, c2, c3, c4, c5, c6⟩, -⟩ := eff_cells hW7.out.e
              go_wp2_with (fail)
              refine bodyPost_ret (results_ct rfl _ _ w.heap.size 27 (effC ⟨0, F, MN, TM, [], 0, B⟩ (.slice none 0 0)) (0, 0) _ rfl (by exact blk7 hW7.out.r _ _ _ _ _ _ _) Tryz.underlying27 rfl (by kernel_rfl)) rfl ?_
              rw [hfin.out]
              exact hW7.out.finish0 _ rfl _
            · have hfin := Aside0.mk (readS_none hA.out.1 (hYN.out.2 hE0))
              have hEb : (E == 0) = false := beq_eq_false_iff_ne.mpr hE0
              clear hE0
              clear hYN
              obtain ⟨⟨a0, a1, a2, a3, a4, a5, a6⟩, f0, f1, f2, f3, f4, f5, f6⟩ := eff_cells hW5.out.r
              obtain ⟨⟨c0, c1, c2, c3, c4, c5, c6⟩, -⟩ := eff_cells hW5.out.z
              go_wp2_with (fail)
              refine bodyPost_ret (results_ct rfl _ _ w.heap.size 27 (effC Eff.zero (.slice none 0 0)) (0, 0) _ rfl (by exact blk7 hW5.out.r _ _ _ _ _ _ _) Tryz.underlying27 rfl (by kernel_rfl)) rfl ?_
              rw [hfin.out]
              exact hW5.out.finish0 _ rfl _
        · have hfin := Aside0.mk (readS_none hA.out.1 (by rw [hwA.out]; exact w7_len (k := 0) (by decide) (by have := hNA.out; show r'.length ≠ 3; omega)))
          have n1 : ((N : Int) == 5) = false := beq_eq_false_iff_ne.mpr (by omega)
          have n2 : ((N : Int) != 5) = true := by rw [bne, n1]; rfl
          clear h5
          obtain ⟨⟨a0, a1, a2, a3, a4, a5, a6⟩, f0, f1, f2, f3, f4, f5, f6⟩ := eff_cells hW3.out.r
          obtain ⟨⟨c0, c1, c2, c3, c4, c5, c6⟩, -⟩ := eff_cells hW3.out.z
          go_wp2_with (fail)
          refine bodyPost_ret (results_ct rfl _ _ w.heap.size 27 (effC Eff.zero (.slice none 0 0)) (0, 0) _ rfl (by exact blk7 hW3.out.r _ _ _ _ _ _ _) Tryz.underlying27 rfl (by kernel_rfl)) rfl ?_
          rw [hfin.out]
          exact hW3.out.finish0 _ rfl _
set_option maxHeartbeats 8000000 in
set_option maxRecDepth 100000 in
theorem refRd_1 (s : ByteArray) (hs : s.size ≤ 2000) (w0 : ByteArray) (r : List ByteArray) (hp : pieces 32 s = w0 :: r) (hkA : Aside0 (w0 = kWord 1)) (w : World) : Calls Tryz.prog 14 #[.string s] w (RdS w (readS s.data.toList).1 (readS s.data.toList).2) := by
  have HC := fun W => PCut.whispererref06_Cut.calls (s.size + 1) s 32 _ W (cut_up s 32 (s.size + 1) (by omega) (by omega))
  rw [hp] at HC
  have hrl : r.length ≤ 2000 := by
    have := pieces_length 32 s
    rw [hp, List.length_cons] at this
    omega
  have hps : pieces 32 (ba s.data.toList) = w0 :: r := by rw [ba_data]; exact hp
  have hz : ∀ y ∈ r, y.size ≤ s.size := fun y hy => pieces_size 32 s y (by rw [hp]; exact List.mem_cons_of_mem _ hy)
  have hone := fun e : r = [] => pieces_one (w0 := w0) (s := s) (by rw [hp, e])
  have hA := Aside0.mk (And.intro hps (And.intro hz (And.intro hone hp)))
  have hCA := Aside0.mk HC
  clear HC hps hz hone hp
  go_enter Tryz.func14, Tryz.ntmps14
  go_wp2_with (fail)
  refine (hCA.out _).mono ?_
  rintro e w1 ⟨v, rfl, hR, hb1⟩
  have hR0 := Aside0.mk hR
  have hb0 := Aside0.mk hb1
  clear hR hb1 hCA
  go_upto_region 5 with (fail)
  obtain ⟨gs, cp, rfl, hgs, hgl, _⟩ := Kd.R_form hR0.out (by simp)
  obtain ⟨-, -, hC⟩ := Kd.R_reads' hR0.out
  have hsz : (w.alloc (.cells #[.int .i64 0, .int .u32 0, .int .u8 0, .int .u8 0, .slice none 0 0, .int .i64 0, .bool false] 27)).heap.size = w.heap.size + 1 := by simp
  have hz1 : ((w1.alloc (.cells #[.int .i64 0, .int .u32 0, .int .u8 0, .int .u8 0, .slice none 0 0, .int .i64 0, .bool false] 27))).heap.size = w1.heap.size + 1 := by simp
  have hb2 : Below w.heap.size w w1 := ((Below.refl _ w).alloc (Nat.le_refl _) _).trans (hb0.out.mono (by rw [hsz]; omega))
  have hb3 : Below w1.heap.size w1 ((w1.alloc (.cells #[.int .i64 0, .int .u32 0, .int .u8 0, .int .u8 0, .slice none 0 0, .int .i64 0, .bool false] 27)).alloc (.cells #[.int .i64 0, .int .u32 0, .int .u8 0, .int .u8 0, .slice none 0 0, .int .i64 0, .bool false] 27)) := ((Below.refl _ w1).alloc (Nat.le_refl _) _).alloc (by rw [hz1]; omega) _
  have hsl := hb0.out.size
  rw [hsz] at hgs hsl
  have hW := Aside0.mk (RrW.mk (w := w) (g2 := w.heap.size) (g5 := w1.heap.size) (g6 := w1.heap.size + 1) (gs := gs) (L := w0 :: r) (x := Eff.zero) (v := .slice none 0 0) (hb2.trans (hb3.mono hb2.size))
    ((hb3.block _ (by omega)).trans ((hb0.out.block _ (by rw [hsz]; omega)).trans (heap_alloc_new w _)))
    ((heap_alloc_old _ _ (by rw [hz1]; omega)).trans (heap_alloc_new w1 _))
    (by have := heap_alloc_new (w1.alloc (.cells #[.int .i64 0, .int .u32 0, .int .u8 0, .int .u8 0, .slice none 0 0, .int .i64 0, .bool false] 27)) (.cells #[.int .i64 0, .int .u32 0, .int .u8 0, .int .u8 0, .slice none 0 0, .int .i64 0, .bool false] 27); rw [hz1] at this; exact this)
    (fun j y hj => cell_stays (cells_of hC rfl j y hj) hb3) (Nat.lt_of_lt_of_le hgl hb3.size) (Nat.le_refl _) hb2.size ⟨by omega, by omega, by omega, by omega, by omega, by omega⟩)
  clear hC hsz hz1 hb2 hb3 hsl hb0 hR0 hgs hgl
  generalize (w1.alloc _).alloc _ = W at *
  generalize w1.heap.size = g5 at *
  have hrn : (w0 :: r).length = r.length + 1 := rfl
  rw [hrn]
  by_cases hE : s = ⟨#[101, 110, 100]⟩
  · have hf0 := readS_some (l := s.data.toList) (w0 := kWord 5) (r := []) (by rw [ba_data, hE]; exact pieces_end) w7_end
    subst hE
    have hfin := Aside0.mk hf0
    clear hf0
    obtain ⟨⟨c0, -, -, -, -, -, -⟩, d0, -, -, -, -, -, -⟩ := eff_cells hW.out.e
    go_upto_region 7 with (fail)
    have hW2 := Aside0.mk (hW.out.put (y := ⟨5, 0, 0, 0, [], 0, false⟩) (v' := .slice none 0 0) 0 (.int .i64 5) rfl)
    clear c0 d0 hW 
    generalize W.setCell _ _ = W2 at *
    obtain ⟨⟨a0, a1, a2, a3, a4, a5, a6⟩, f0, f1, f2, f3, f4, f5, f6⟩ := eff_cells hW2.out.r
    obtain ⟨⟨c0, c1, c2, c3, c4, c5, c6⟩, -⟩ := eff_cells hW2.out.e
    go_wp2_with (fail)
    refine bodyPost_ret (results_ct rfl _ _ w.heap.size 27 (effC ⟨5, 0, 0, 0, [], 0, false⟩ (.slice none 0 0)) (0, 0) _ rfl (by exact blk7 hW2.out.r _ _ _ _ _ _ _) Tryz.underlying27 rfl (by kernel_rfl)) rfl ?_
    rw [hfin.out]
    exact hW2.out.finish0 _ rfl _
  by_cases hH : s = ⟨#[104, 105, 115, 116, 111, 114, 121]⟩
  · have hf0 := readS_some (l := s.data.toList) (w0 := kWord 6) (r := []) (by rw [ba_data, hH]; exact pieces_history) w7_history
    subst hH
    clear hE
    have hfin := Aside0.mk hf0
    clear hf0
    obtain ⟨⟨c0, -, -, -, -, -, -⟩, d0, -, -, -, -, -, -⟩ := eff_cells hW.out.e
    go_upto_region 7 with (fail)
    have hW2 := Aside0.mk (hW.out.put (y := ⟨5, 0, 0, 0, [], 0, false⟩) (v' := .slice none 0 0) 0 (.int .i64 5) rfl)
    clear c0 d0 hW 
    generalize W.setCell _ _ = W2 at *
    obtain ⟨⟨c0, -, -, -, -, -, -⟩, d0, -, -, -, -, -, -⟩ := eff_cells hW2.out.e
    go_upto_region 9 with (fail)
    have hW3 := Aside0.mk (hW2.out.put (y := ⟨6, 0, 0, 0, [], 0, false⟩) (v' := .slice none 0 0) 0 (.int .i64 6) rfl)
    clear c0 d0 hW2 
    generalize W2.setCell _ _ = W3 at *
    obtain ⟨⟨a0, a1, a2, a3, a4, a5, a6⟩, f0, f1, f2, f3, f4, f5, f6⟩ := eff_cells hW3.out.r
    obtain ⟨⟨c0, c1, c2, c3, c4, c5, c6⟩, -⟩ := eff_cells hW3.out.e
    go_wp2_with (fail)
    refine bodyPost_ret (results_ct rfl _ _ w.heap.size 27 (effC ⟨6, 0, 0, 0, [], 0, false⟩ (.slice none 0 0)) (0, 0) _ rfl (by exact blk7 hW3.out.r _ _ _ _ _ _ _) Tryz.underlying27 rfl (by kernel_rfl)) rfl ?_
    rw [hfin.out]
    exact hW3.out.finish0 _ rfl _
  have tE : (s.toList == [101, 110, 100]) = false := by
    have := ba_beq s ⟨#[101, 110, 100]⟩
    rw [decide_eq_false hE, show (⟨#[101, 110, 100]⟩ : ByteArray).toList = [101, 110, 100] by rw [ByteArray.toList_eq]] at this
    exact this
  have tH : (s.toList == [104, 105, 115, 116, 111, 114, 121]) = false := by
    have := ba_beq s ⟨#[104, 105, 115, 116, 111, 114, 121]⟩
    rw [decide_eq_false hH, show (⟨#[104, 105, 115, 116, 111, 114, 121]⟩ : ByteArray).toList = [104, 105, 115, 116, 111, 114, 121] by rw [ByteArray.toList_eq]] at this
    exact this
  go_upto_region 10 with (fail)
  cases r with
  | nil =>
    have hsw := hA.out.2.2.1 rfl
    have hfin := Aside0.mk (readS_none hA.out.1 (w7_one w0 (fun e => hE (hsw.trans e)) (fun e => hH (hsw.trans e))))
    clear hE hH hsw
    obtain ⟨⟨a0, a1, a2, a3, a4, a5, a6⟩, f0, f1, f2, f3, f4, f5, f6⟩ := eff_cells hW.out.r
    obtain ⟨⟨c0, c1, c2, c3, c4, c5, c6⟩, -⟩ := eff_cells hW.out.z
    go_wp2_with (fail)
    refine bodyPost_ret (results_ct rfl _ _ w.heap.size 27 (effC Eff.zero (.slice none 0 0)) (0, 0) _ rfl (by exact blk7 hW.out.r _ _ _ _ _ _ _) Tryz.underlying27 rfl (by kernel_rfl)) rfl ?_
    rw [hfin.out]
    exact hW.out.finish0 _ rfl _
  | cons r0 r' =>
    clear hE hH tE tH
    have hrn2 : (r0 :: r').length + 1 = r'.length + 2 := rfl
    rw [hrn2]
    have hlen := Aside0.mk (show (r0 :: r').length ≤ 2000 from hrl)
    clear hrn hrn2 hrl
    obtain ⟨last, hlast⟩ : ∃ y, (w0 :: r0 :: r')[r'.length + 1]? = some y := ⟨_, List.getElem?_eq_getElem (by simp)⟩
    have hla := Aside0.mk hlast
    clear hlast
    obtain ⟨N, hN⟩ : ∃ N, r'.length + 2 = N := ⟨_, rfl⟩
    rw [hN]
    have hNA := Aside0.mk hN
    have hN2 : decide ((N : Int) < 2) = false := decide_eq_false (by omega)
    have hNb := Aside0.mk (show N ≤ 4000 by have := hlen.out; simp only [List.length_cons] at this; omega)
    have s0 : W.cell? ⟨gs, 0, none⟩ = some (.string w0) := hW.out.s 0 _ rfl
    have s1 : W.cell? ⟨gs, 1, none⟩ = some (.string r0) := hW.out.s 1 _ rfl
    have hN0 : (0 : Int) < (N : Int) := by omega
    have hN1 : (1 : Int) < (N : Int) := by omega
    clear hN
    have bne_of : ∀ (x S : ByteArray), x ≠ S → (x.toList == S.toList) = false ∧ (x.toList != S.toList) = true := fun x S h => by
      have e := ba_beq x S
      rw [decide_eq_false h] at e
      exact ⟨e, by rw [bne, e]; rfl⟩
    have beq_of : ∀ (x S : ByteArray), x = S → (x.toList == S.toList) = true ∧ (x.toList != S.toList) = false := fun x S h => by
      have e := ba_beq x S
      rw [decide_eq_true h] at e
      exact ⟨e, by rw [bne, e]; rfl⟩
    have lit : ∀ l : List UInt8, (⟨l.toArray⟩ : ByteArray).toList = l := toList_mk
    have hbn := Aside0.mk bne_of
    have hbe := Aside0.mk beq_of
    have hlit := Aside0.mk lit
    clear bne_of beq_of lit
    by_cases hbad : w0 ≠ kWord 4 ∧ r0 ≠ okW ∧ r0 ≠ failW
    · have hfin := Aside0.mk (readS_none hA.out.1 (w7_neither w0 r0 r' hbad.1 hbad.2.1 hbad.2.2))
      obtain ⟨t1, t2⟩ := hbn.out _ _ hbad.1
      obtain ⟨t3, t4⟩ := hbn.out _ _ hbad.2.1
      obtain ⟨t5, t6⟩ := hbn.out _ _ hbad.2.2
      rw [show (kWord 4).toList = [115, 105, 103, 110, 97, 108] from hlit.out _] at t1 t2
      rw [show okW.toList = [111, 107] from hlit.out _] at t3 t4
      rw [show failW.toList = [102, 97, 105, 108] from hlit.out _] at t5 t6
      clear hbad
      obtain ⟨⟨a0, a1, a2, a3, a4, a5, a6⟩, f0, f1, f2, f3, f4, f5, f6⟩ := eff_cells hW.out.r
      obtain ⟨⟨c0, c1, c2, c3, c4, c5, c6⟩, -⟩ := eff_cells hW.out.z
      go_wp2_with (fail)
      refine bodyPost_ret (results_ct rfl _ _ w.heap.size 27 (effC Eff.zero (.slice none 0 0)) (0, 0) _ rfl (by exact blk7 hW.out.r _ _ _ _ _ _ _) Tryz.underlying27 rfl (by kernel_rfl)) rfl ?_
      rw [hfin.out]
      exact hW.out.finish0 _ rfl _
    · have hgood : w0 = kWord 4 ∨ (w0 ≠ kWord 4 ∧ r0 = okW) ∨ (w0 ≠ kWord 4 ∧ r0 ≠ okW ∧ r0 = failW) := by
        by_cases h1 : w0 = kWord 4
        · exact .inl h1
        · by_cases h2 : r0 = okW
          · exact .inr (.inl ⟨h1, h2⟩)
          · by_cases h3 : r0 = failW
            · exact .inr (.inr ⟨h1, h2, h3⟩)
            · exact absurd ⟨h1, h2, h3⟩ hbad
      have hgA := Aside0.mk hgood
      clear hgood hbad
      go_cut [45] (fun v45 wc => v45 = .bool false ∧ wc = W)
      case first =>
        rcases hgA.out with h1 | ⟨h1, h2⟩ | ⟨h1, h2, h3⟩
        · obtain ⟨t1, t2⟩ := hbe.out _ _ h1
          rw [show (kWord 4).toList = [115, 105, 103, 110, 97, 108] from hlit.out _] at t1 t2
          clear h1
          go_wp2_with (fail)
          go_meet
          case rel => exact ⟨rfl, rfl⟩
        · obtain ⟨t1, t2⟩ := hbn.out _ _ h1
          obtain ⟨t3, t4⟩ := hbe.out _ _ h2
          rw [show (kWord 4).toList = [115, 105, 103, 110, 97, 108] from hlit.out _] at t1 t2
          rw [show okW.toList = [111, 107] from hlit.out _] at t3 t4
          clear h1 h2
          go_wp2_with (fail)
          go_meet
          case rel => exact ⟨rfl, rfl⟩
        · obtain ⟨t1, t2⟩ := hbn.out _ _ h1
          obtain ⟨t3, t4⟩ := hbn.out _ _ h2
          obtain ⟨t5, t6⟩ := hbe.out _ _ h3
          rw [show (kWord 4).toList = [115, 105, 103, 110, 97, 108] from hlit.out _] at t1 t2
          rw [show okW.toList = [111, 107] from hlit.out _] at t3 t4
          rw [show failW.toList = [102, 97, 105, 108] from hlit.out _] at t5 t6
          clear h1 h2 h3
          go_wp2_with (fail)
          go_meet
          case rel => exact ⟨rfl, rfl⟩
      case rest =>
        obtain ⟨rfl, hwc⟩ := hcut
        have hwc2 := hwc.symm
        subst hwc2
        have ho : (r0.toList == okW.toList) = decide (r0 = okW) := ba_beq r0 okW
        rw [show okW.toList = [111, 107] from hlit.out _] at ho
        have hB := Aside0.mk (rfl : decide (r0 = okW) = decide (r0 = okW))
        generalize hBe : decide (r0 = okW) = B at ho
        have hBA := Aside0.mk hBe
        clear hBe hB
        obtain ⟨⟨-, -, -, -, -, -, c6⟩, -, -, -, -, -, -, d6⟩ := eff_cells hW.out.e
        go_upto_region 13 with (fail)
        have hW2 := Aside0.mk (hW.out.put (y := ⟨0, 0, 0, 0, [], 0, B⟩) (v' := .slice none 0 0) 6 (.bool B) rfl)
        clear c6 d6 hW s0 s1 ho
        generalize W.setCell _ _ = W2 at *
        obtain ⟨M, hM⟩ : ∃ M, r'.length + 1 = M := ⟨_, rfl⟩
        have hNM : N = M + 1 := by have := hNA.out; omega
        have hwN : wrap64 ((N : Int) - 1) = (M : Int) := by have := hNb.out; unfold wrap64; omega
        have hMN : (M : Int) < (N : Int) := by omega
        have hM0 : (0 : Int) ≤ (M : Int) := by omega
        have sl : W2.cell? ⟨gs, M, none⟩ = some (.string last) := by
          have := hW2.out.s (r'.length + 1) last hla.out
          rw [Nat.zero_add, hM] at this
          exact this
        have hMA := Aside0.mk hM
        have hNMA := Aside0.mk hNM
        clear hM hNM
        go_wp2_with (fail)
        refine (numb_ok last 10 18 _ (by omega) (by omega) (by omega) (by decide)).mono ?_
        rintro e w3 ⟨rfl, hb3⟩
        have hW3 := Aside0.mk (hW2.out.below hb3)
        clear hb3 hW2 sl
        generalize hV : numB 10 18 last.data.toList = V at *
        have hVA := Aside0.mk hV
        clear hV
        have s0 : w3.cell? ⟨gs, 0, none⟩ = some (.string w0) := hW3.out.s 0 _ rfl
        go_upto_region 17 with (fail)
        have hrA := Aside0.mk (show r0 = okW ∨ r0 = failW ∨ w0 = kWord 4 from hgA.out.elim (fun h => .inr (.inr h)) (fun h => h.elim (fun h => .inl h.2) (fun h => .inr (.inl h.2.2))))
        have hk1 := hkA.out
        have hk0 : w0 ≠ kWord 0 := fun e => absurd (hk1.symm.trans e) (by decide)
        have hwA := Aside0.mk hk1
        obtain ⟨x0, -⟩ := hbn.out w0 (kWord 0) hk0
        rw [show (kWord 0).toList = [103, 111, 116] from hlit.out _] at x0
        obtain ⟨x1, -⟩ := hbe.out w0 (kWord 1) hk1
        rw [show (kWord 1).toList = [119, 97, 115] from hlit.out _] at x1
        have hr1 : Aside0 (r0 = okW ∨ r0 = failW) := ⟨hrA.out.elim .inl (fun h => h.elim .inr (fun h => absurd (hk1.symm.trans h) (by decide)))⟩
        clear hk0 hk1
        by_cases h5 : N = 5
        · subst h5
          obtain ⟨a, b, c, rfl⟩ : ∃ a b c, r' = [a, b, c] := by
            have h := hNA.out
            match r', h with
            | [a, b, c], _ => exact ⟨a, b, c, rfl⟩
          have hz3 := hA.out.2.1
          have hsz : s.size = w0.size + r0.size + a.size + b.size + c.size + 4 := by
            have h9 := hA.out.1
            unfold pieces at h9
            have h8 := congrArg (fun L => L.map (·.data.toList)) h9
            simp only [map_ba, List.map_cons, List.map_nil, data_ba] at h8
            have h7 := join_split 32 s.data.toList
            rw [h8] at h7
            rw [Lib.size_eq, ← h7]
            simp only [joinB, List.length_append, List.length_cons, Lib.size_eq]
            omega
          obtain ⟨X, hX⟩ : ∃ X : ByteArray, (⟨(Lib.join ([a, b, c].map (·.data.toList)) [32]).toArray⟩ : ByteArray) = X := ⟨_, rfl⟩
          have hS : a ++ (⟨#[32]⟩ : ByteArray) ++ b ++ (⟨#[32]⟩ : ByteArray) ++ c = X := by
            rw [← hX]
            apply ba_ext
            rw [libjoin_eq]
            simp [joinB]
          have hXs : X.size ≤ 2000 := by
            rw [← hS]
            simp only [ByteArray.size_append]
            show a.size + 1 + b.size + 1 + c.size ≤ 2000
            omega
          have hq1 : a.size + 1 ≤ 9223372036854775807 := by omega
          have hq2 : a.size + 1 + b.size ≤ 9223372036854775807 := by omega
          have hq3 : a.size + 1 + b.size + 1 ≤ 9223372036854775807 := by omega
          have hq4 : a.size + 1 + b.size + 1 + c.size ≤ 9223372036854775807 := by omega
          have hRV := ref_read X hXs 300000 (Nat.le_refl _)
          obtain ⟨F, MN, TM, E, hRVe⟩ : ∃ F MN TM E, readV X = (F, MN, TM, E) := ⟨_, _, _, _, rfl⟩
          have HR : ∀ W : World, Calls Tryz.prog 34 #[.string (a ++ (⟨#[32]⟩ : ByteArray) ++ b ++ (⟨#[32]⟩ : ByteArray) ++ c)] W fun e w' => e = .returned (.tuple #[.agg #[.int .u32 F, .int .u8 MN, .int .u8 TM], .int .i64 E]) ∧ Below W.heap.size W w' := fun W => by
            rw [hS]
            exact PRead.whispererref06_Read.calls 300000 X F MN TM E W (hRV.trans (congrArg some hRVe))
          have HRA := Aside0.mk HR
          have hyes : E = 0 → readW w0 [r0, a, b, c] = some ⟨1, F, MN, TM, [], 0, B⟩ := fun e => by
            have := w7_attrs (k := 1) (by decide) (a := a) (b := b) (c := c) hr1.out (by rw [hX, hRVe]; exact e)
            rw [hX, hRVe, hBA.out] at this
            rw [hwA.out]
            exact this
          have hno : E ≠ 0 → readW w0 [r0, a, b, c] = none := fun e => by
            rw [hwA.out]
            exact w7_attrs_no (k := 1) (by decide) hr1.out (by rw [hX, hRVe]; exact e)
          have hYN := Aside0.mk (And.intro hyes hno)
          clear hz3 hsz hX hS hXs hRV hRVe HR hyes hno
          have s2 : w3.cell? ⟨gs, 2, none⟩ = some (.string a) := hW3.out.s 2 _ rfl
          have s3 : w3.cell? ⟨gs, 3, none⟩ = some (.string b) := hW3.out.s 3 _ rfl
          have s4 : w3.cell? ⟨gs, 4, none⟩ = some (.string c) := hW3.out.s 4 _ rfl
          have hW3d := Aside0.mk (hW3.out.below (below_drew1 (Below.refl _ _)))
          go_upto_region 21 with (fail)
          go_cut [9] (fun v9 wc => v9 = .int .i64 E ∧ Aside0 (RrW w wc w.heap.size g5 (g5 + 1) gs [w0, r0, a, b, c] ⟨0, F, MN, TM, [], 0, B⟩ (.slice none 0 0)))
          case first =>
            clear hYN hA hlen hNA hla hMA hNMA hVA hgA hbn hbe hlit hr1 hrA hwA x0 x1
            go_region_with (go_at_call 34; refine (HRA.out _).mono ?_; rintro e w4 ⟨rfl, hb4⟩; have hW4 := Aside0.mk (hW3d.out.below hb4); obtain ⟨⟨-, c1, c2, c3, -, -, -⟩, -, d1, d2, d3, -, -, -⟩ := eff_cells hW4.out.e)
            all_goals
              go_wp2_with (fail)
              go_meet
              case rel => exact ⟨rfl, ⟨((hW4.out.put (y := ⟨0, F, 0, 0, [], 0, B⟩) (v' := .slice none 0 0) 1 (.int .u32 F) rfl).put (y := ⟨0, F, MN, 0, [], 0, B⟩) (v' := .slice none 0 0) 2 (.int .u8 MN) rfl).put (y := ⟨0, F, MN, TM, [], 0, B⟩) (v' := .slice none 0 0) 3 (.int .u8 TM) rfl⟩⟩
          case rest =>
            obtain ⟨rfl, hW5⟩ := hcut
            clear s2 s3 s4 s0 hW3d hW3 HRA
            have s0 : wc.cell? ⟨gs, 0, none⟩ = some (.string w0) := hW5.out.s 0 _ rfl
            by_cases hE0 : E = 0
            · have hfin := Aside0.mk (readS_some hA.out.1 (hYN.out.1 hE0))
              subst hE0
              clear hYN
              obtain ⟨⟨c0, -, -, -, -, -, -⟩, d0, -, -, -, -, -, -⟩ := eff_cells hW5.out.e
              go_upto_region 25 with (fail)
              have hW6 := Aside0.mk (hW5.out.put (y := ⟨1, F, MN, TM, [], 0, B⟩) (v' := .slice none 0 0) 0 (.int .i64 1) rfl)
              clear c0 d0 hW5 s0
              generalize wc.setCell _ _ = W6 at *
              obtain ⟨⟨-, -, -, -, -, c5, -⟩, -, -, -, -, -, d5, -⟩ := eff_cells hW6.out.e
              go_upto_region 41 with (fail)
              have hW7 := Aside0.mk (hW6.out.put (y := ⟨1, F, MN, TM, [], 0, B⟩) (v' := .slice none 0 0) 5 (.int .i64 0) rfl)
              clear c5 d5 hW6
              generalize W6.setCell _ _ = W7 at *
              obtain ⟨⟨a0, a1, a2, a3, a4, a5, a6⟩, f0, f1, f2, f3, f4, f5, f6⟩ := eff_cells hW7.out.r
              obtain ⟨⟨c0, c1, c2, c3, c4, c5, c6⟩, -⟩ := eff_cells hW7.out.e
              go_wp2_with (fail)
              refine bodyPost_ret (results_ct rfl _ _ w.heap.size 27 (effC ⟨1, F, MN, TM, [], 0, B⟩ (.slice none 0 0)) (0, 0) _ rfl (by exact blk7 hW7.out.r _ _ _ _ _ _ _) Tryz.underlying27 rfl (by kernel_rfl)) rfl ?_
              rw [hfin.out]
              exact hW7.out.finish0 _ rfl _
            · have hfin := Aside0.mk (readS_none hA.out.1 (hYN.out.2 hE0))
              have hEb : (E == 0) = false := beq_eq_false_iff_ne.mpr hE0
              clear hE0
              clear hYN
              obtain ⟨⟨c0, -, -, -, -, -, -⟩, d0, -, -, -, -, -, -⟩ := eff_cells hW5.out.e
              go_upto_region 25 with (fail)
              have hW6 := Aside0.mk (hW5.out.put (y := ⟨1, F, MN, TM, [], 0, B⟩) (v' := .slice none 0 0) 0 (.int .i64 1) rfl)
              clear c0 d0 hW5 s0
              generalize wc.setCell _ _ = W6 at *
              obtain ⟨⟨a0, a1, a2, a3, a4, a5, a6⟩, f0, f1, f2, f3, f4, f5, f6⟩ := eff_cells hW6.out.r
              obtain ⟨⟨c0, c1, c2, c3, c4, c5, c6⟩, -⟩ := eff_cells hW6.out.z
              go_wp2_with (fail)
              refine bodyPost_ret (results_ct rfl _ _ w.heap.size 27 (effC Eff.zero (.slice none 0 0)) (0, 0) _ rfl (by exact blk7 hW6.out.r _ _ _ _ _ _ _) Tryz.underlying27 rfl (by kernel_rfl)) rfl ?_
              rw [hfin.out]
              exact hW6.out.finish0 _ rfl _
        · have hfin := Aside0.mk (readS_none hA.out.1 (by rw [hwA.out]; exact w7_len (k := 1) (by decide) (by have := hNA.out; show r'.length ≠ 3; omega)))
          have n1 : ((N : Int) == 5) = false := beq_eq_false_iff_ne.mpr (by omega)
          have n2 : ((N : Int) != 5) = true := by rw [bne, n1]; rfl
          clear h5
          obtain ⟨⟨a0, a1, a2, a3, a4, a5, a6⟩, f0, f1, f2, f3, f4, f5, f6⟩ := eff_cells hW3.out.r
          obtain ⟨⟨c0, c1, c2, c3, c4, c5, c6⟩, -⟩ := eff_cells hW3.out.z
          go_wp2_with (fail)
          refine bodyPost_ret (results_ct rfl _ _ w.heap.size 27 (effC Eff.zero (.slice none 0 0)) (0, 0) _ rfl (by exact blk7 hW3.out.r _ _ _ _ _ _ _) Tryz.underlying27 rfl (by kernel_rfl)) rfl ?_
          rw [hfin.out]
          exact hW3.out.finish0 _ rfl _
set_option maxHeartbeats 8000000 in
set_option maxRecDepth 100000 in
theorem refRd_2 (s : ByteArray) (hs : s.size ≤ 2000) (w0 : ByteArray) (r : List ByteArray) (hp : pieces 32 s = w0 :: r) (hkA : Aside0 (w0 ≠ kWord 0 ∧ w0 ≠ kWord 1)) (w : World) : Calls Tryz.prog 14 #[.string s] w (RdS w (readS s.data.toList).1 (readS s.data.toList).2) := by
  have HC := fun W => PCut.whispererref06_Cut.calls (s.size + 1) s 32 _ W (cut_up s 32 (s.size + 1) (by omega) (by omega))
  rw [hp] at HC
  have hrl : r.length ≤ 2000 := by
    have := pieces_length 32 s
    rw [hp, List.length_cons] at this
    omega
  have hps : pieces 32 (ba s.data.toList) = w0 :: r := by rw [ba_data]; exact hp
  have hz : ∀ y ∈ r, y.size ≤ s.size := fun y hy => pieces_size 32 s y (by rw [hp]; exact List.mem_cons_of_mem _ hy)
  have hone := fun e : r = [] => pieces_one (w0 := w0) (s := s) (by rw [hp, e])
  have hA := Aside0.mk (And.intro hps (And.intro hz (And.intro hone hp)))
  have hCA := Aside0.mk HC
  clear HC hps hz hone hp
  go_enter Tryz.func14, Tryz.ntmps14
  go_wp2_with (fail)
  refine (hCA.out _).mono ?_
  rintro e w1 ⟨v, rfl, hR, hb1⟩
  have hR0 := Aside0.mk hR
  have hb0 := Aside0.mk hb1
  clear hR hb1 hCA
  go_upto_region 5 with (fail)
  obtain ⟨gs, cp, rfl, hgs, hgl, _⟩ := Kd.R_form hR0.out (by simp)
  obtain ⟨-, -, hC⟩ := Kd.R_reads' hR0.out
  have hsz : (w.alloc (.cells #[.int .i64 0, .int .u32 0, .int .u8 0, .int .u8 0, .slice none 0 0, .int .i64 0, .bool false] 27)).heap.size = w.heap.size + 1 := by simp
  have hz1 : ((w1.alloc (.cells #[.int .i64 0, .int .u32 0, .int .u8 0, .int .u8 0, .slice none 0 0, .int .i64 0, .bool false] 27))).heap.size = w1.heap.size + 1 := by simp
  have hb2 : Below w.heap.size w w1 := ((Below.refl _ w).alloc (Nat.le_refl _) _).trans (hb0.out.mono (by rw [hsz]; omega))
  have hb3 : Below w1.heap.size w1 ((w1.alloc (.cells #[.int .i64 0, .int .u32 0, .int .u8 0, .int .u8 0, .slice none 0 0, .int .i64 0, .bool false] 27)).alloc (.cells #[.int .i64 0, .int .u32 0, .int .u8 0, .int .u8 0, .slice none 0 0, .int .i64 0, .bool false] 27)) := ((Below.refl _ w1).alloc (Nat.le_refl _) _).alloc (by rw [hz1]; omega) _
  have hsl := hb0.out.size
  rw [hsz] at hgs hsl
  have hW := Aside0.mk (RrW.mk (w := w) (g2 := w.heap.size) (g5 := w1.heap.size) (g6 := w1.heap.size + 1) (gs := gs) (L := w0 :: r) (x := Eff.zero) (v := .slice none 0 0) (hb2.trans (hb3.mono hb2.size))
    ((hb3.block _ (by omega)).trans ((hb0.out.block _ (by rw [hsz]; omega)).trans (heap_alloc_new w _)))
    ((heap_alloc_old _ _ (by rw [hz1]; omega)).trans (heap_alloc_new w1 _))
    (by have := heap_alloc_new (w1.alloc (.cells #[.int .i64 0, .int .u32 0, .int .u8 0, .int .u8 0, .slice none 0 0, .int .i64 0, .bool false] 27)) (.cells #[.int .i64 0, .int .u32 0, .int .u8 0, .int .u8 0, .slice none 0 0, .int .i64 0, .bool false] 27); rw [hz1] at this; exact this)
    (fun j y hj => cell_stays (cells_of hC rfl j y hj) hb3) (Nat.lt_of_lt_of_le hgl hb3.size) (Nat.le_refl _) hb2.size ⟨by omega, by omega, by omega, by omega, by omega, by omega⟩)
  clear hC hsz hz1 hb2 hb3 hsl hb0 hR0 hgs hgl
  generalize (w1.alloc _).alloc _ = W at *
  generalize w1.heap.size = g5 at *
  have hrn : (w0 :: r).length = r.length + 1 := rfl
  rw [hrn]
  by_cases hE : s = ⟨#[101, 110, 100]⟩
  · have hf0 := readS_some (l := s.data.toList) (w0 := kWord 5) (r := []) (by rw [ba_data, hE]; exact pieces_end) w7_end
    subst hE
    have hfin := Aside0.mk hf0
    clear hf0
    obtain ⟨⟨c0, -, -, -, -, -, -⟩, d0, -, -, -, -, -, -⟩ := eff_cells hW.out.e
    go_upto_region 7 with (fail)
    have hW2 := Aside0.mk (hW.out.put (y := ⟨5, 0, 0, 0, [], 0, false⟩) (v' := .slice none 0 0) 0 (.int .i64 5) rfl)
    clear c0 d0 hW 
    generalize W.setCell _ _ = W2 at *
    obtain ⟨⟨a0, a1, a2, a3, a4, a5, a6⟩, f0, f1, f2, f3, f4, f5, f6⟩ := eff_cells hW2.out.r
    obtain ⟨⟨c0, c1, c2, c3, c4, c5, c6⟩, -⟩ := eff_cells hW2.out.e
    go_wp2_with (fail)
    refine bodyPost_ret (results_ct rfl _ _ w.heap.size 27 (effC ⟨5, 0, 0, 0, [], 0, false⟩ (.slice none 0 0)) (0, 0) _ rfl (by exact blk7 hW2.out.r _ _ _ _ _ _ _) Tryz.underlying27 rfl (by kernel_rfl)) rfl ?_
    rw [hfin.out]
    exact hW2.out.finish0 _ rfl _
  by_cases hH : s = ⟨#[104, 105, 115, 116, 111, 114, 121]⟩
  · have hf0 := readS_some (l := s.data.toList) (w0 := kWord 6) (r := []) (by rw [ba_data, hH]; exact pieces_history) w7_history
    subst hH
    clear hE
    have hfin := Aside0.mk hf0
    clear hf0
    obtain ⟨⟨c0, -, -, -, -, -, -⟩, d0, -, -, -, -, -, -⟩ := eff_cells hW.out.e
    go_upto_region 7 with (fail)
    have hW2 := Aside0.mk (hW.out.put (y := ⟨5, 0, 0, 0, [], 0, false⟩) (v' := .slice none 0 0) 0 (.int .i64 5) rfl)
    clear c0 d0 hW 
    generalize W.setCell _ _ = W2 at *
    obtain ⟨⟨c0, -, -, -, -, -, -⟩, d0, -, -, -, -, -, -⟩ := eff_cells hW2.out.e
    go_upto_region 9 with (fail)
    have hW3 := Aside0.mk (hW2.out.put (y := ⟨6, 0, 0, 0, [], 0, false⟩) (v' := .slice none 0 0) 0 (.int .i64 6) rfl)
    clear c0 d0 hW2 
    generalize W2.setCell _ _ = W3 at *
    obtain ⟨⟨a0, a1, a2, a3, a4, a5, a6⟩, f0, f1, f2, f3, f4, f5, f6⟩ := eff_cells hW3.out.r
    obtain ⟨⟨c0, c1, c2, c3, c4, c5, c6⟩, -⟩ := eff_cells hW3.out.e
    go_wp2_with (fail)
    refine bodyPost_ret (results_ct rfl _ _ w.heap.size 27 (effC ⟨6, 0, 0, 0, [], 0, false⟩ (.slice none 0 0)) (0, 0) _ rfl (by exact blk7 hW3.out.r _ _ _ _ _ _ _) Tryz.underlying27 rfl (by kernel_rfl)) rfl ?_
    rw [hfin.out]
    exact hW3.out.finish0 _ rfl _
  have tE : (s.toList == [101, 110, 100]) = false := by
    have := ba_beq s ⟨#[101, 110, 100]⟩
    rw [decide_eq_false hE, show (⟨#[101, 110, 100]⟩ : ByteArray).toList = [101, 110, 100] by rw [ByteArray.toList_eq]] at this
    exact this
  have tH : (s.toList == [104, 105, 115, 116, 111, 114, 121]) = false := by
    have := ba_beq s ⟨#[104, 105, 115, 116, 111, 114, 121]⟩
    rw [decide_eq_false hH, show (⟨#[104, 105, 115, 116, 111, 114, 121]⟩ : ByteArray).toList = [104, 105, 115, 116, 111, 114, 121] by rw [ByteArray.toList_eq]] at this
    exact this
  go_upto_region 10 with (fail)
  cases r with
  | nil =>
    have hsw := hA.out.2.2.1 rfl
    have hfin := Aside0.mk (readS_none hA.out.1 (w7_one w0 (fun e => hE (hsw.trans e)) (fun e => hH (hsw.trans e))))
    clear hE hH hsw
    obtain ⟨⟨a0, a1, a2, a3, a4, a5, a6⟩, f0, f1, f2, f3, f4, f5, f6⟩ := eff_cells hW.out.r
    obtain ⟨⟨c0, c1, c2, c3, c4, c5, c6⟩, -⟩ := eff_cells hW.out.z
    go_wp2_with (fail)
    refine bodyPost_ret (results_ct rfl _ _ w.heap.size 27 (effC Eff.zero (.slice none 0 0)) (0, 0) _ rfl (by exact blk7 hW.out.r _ _ _ _ _ _ _) Tryz.underlying27 rfl (by kernel_rfl)) rfl ?_
    rw [hfin.out]
    exact hW.out.finish0 _ rfl _
  | cons r0 r' =>
    clear hE hH tE tH
    have hrn2 : (r0 :: r').length + 1 = r'.length + 2 := rfl
    rw [hrn2]
    have hlen := Aside0.mk (show (r0 :: r').length ≤ 2000 from hrl)
    clear hrn hrn2 hrl
    obtain ⟨last, hlast⟩ : ∃ y, (w0 :: r0 :: r')[r'.length + 1]? = some y := ⟨_, List.getElem?_eq_getElem (by simp)⟩
    have hla := Aside0.mk hlast
    clear hlast
    obtain ⟨N, hN⟩ : ∃ N, r'.length + 2 = N := ⟨_, rfl⟩
    rw [hN]
    have hNA := Aside0.mk hN
    have hN2 : decide ((N : Int) < 2) = false := decide_eq_false (by omega)
    have hNb := Aside0.mk (show N ≤ 4000 by have := hlen.out; simp only [List.length_cons] at this; omega)
    have s0 : W.cell? ⟨gs, 0, none⟩ = some (.string w0) := hW.out.s 0 _ rfl
    have s1 : W.cell? ⟨gs, 1, none⟩ = some (.string r0) := hW.out.s 1 _ rfl
    have hN0 : (0 : Int) < (N : Int) := by omega
    have hN1 : (1 : Int) < (N : Int) := by omega
    clear hN
    have bne_of : ∀ (x S : ByteArray), x ≠ S → (x.toList == S.toList) = false ∧ (x.toList != S.toList) = true := fun x S h => by
      have e := ba_beq x S
      rw [decide_eq_false h] at e
      exact ⟨e, by rw [bne, e]; rfl⟩
    have beq_of : ∀ (x S : ByteArray), x = S → (x.toList == S.toList) = true ∧ (x.toList != S.toList) = false := fun x S h => by
      have e := ba_beq x S
      rw [decide_eq_true h] at e
      exact ⟨e, by rw [bne, e]; rfl⟩
    have lit : ∀ l : List UInt8, (⟨l.toArray⟩ : ByteArray).toList = l := toList_mk
    have hbn := Aside0.mk bne_of
    have hbe := Aside0.mk beq_of
    have hlit := Aside0.mk lit
    clear bne_of beq_of lit
    by_cases hbad : w0 ≠ kWord 4 ∧ r0 ≠ okW ∧ r0 ≠ failW
    · have hfin := Aside0.mk (readS_none hA.out.1 (w7_neither w0 r0 r' hbad.1 hbad.2.1 hbad.2.2))
      obtain ⟨t1, t2⟩ := hbn.out _ _ hbad.1
      obtain ⟨t3, t4⟩ := hbn.out _ _ hbad.2.1
      obtain ⟨t5, t6⟩ := hbn.out _ _ hbad.2.2
      rw [show (kWord 4).toList = [115, 105, 103, 110, 97, 108] from hlit.out _] at t1 t2
      rw [show okW.toList = [111, 107] from hlit.out _] at t3 t4
      rw [show failW.toList = [102, 97, 105, 108] from hlit.out _] at t5 t6
      clear hbad
      obtain ⟨⟨a0, a1, a2, a3, a4, a5, a6⟩, f0, f1, f2, f3, f4, f5, f6⟩ := eff_cells hW.out.r
      obtain ⟨⟨c0, c1, c2, c3, c4, c5, c6⟩, -⟩ := eff_cells hW.out.z
      go_wp2_with (fail)
      refine bodyPost_ret (results_ct rfl _ _ w.heap.size 27 (effC Eff.zero (.slice none 0 0)) (0, 0) _ rfl (by exact blk7 hW.out.r _ _ _ _ _ _ _) Tryz.underlying27 rfl (by kernel_rfl)) rfl ?_
      rw [hfin.out]
      exact hW.out.finish0 _ rfl _
    · have hgood : w0 = kWord 4 ∨ (w0 ≠ kWord 4 ∧ r0 = okW) ∨ (w0 ≠ kWord 4 ∧ r0 ≠ okW ∧ r0 = failW) := by
        by_cases h1 : w0 = kWord 4
        · exact .inl h1
        · by_cases h2 : r0 = okW
          · exact .inr (.inl ⟨h1, h2⟩)
          · by_cases h3 : r0 = failW
            · exact .inr (.inr ⟨h1, h2, h3⟩)
            · exact absurd ⟨h1, h2, h3⟩ hbad
      have hgA := Aside0.mk hgood
      clear hgood hbad
      go_cut [45] (fun v45 wc => v45 = .bool false ∧ wc = W)
      case first =>
        rcases hgA.out with h1 | ⟨h1, h2⟩ | ⟨h1, h2, h3⟩
        · obtain ⟨t1, t2⟩ := hbe.out _ _ h1
          rw [show (kWord 4).toList = [115, 105, 103, 110, 97, 108] from hlit.out _] at t1 t2
          clear h1
          go_wp2_with (fail)
          go_meet
          case rel => exact ⟨rfl, rfl⟩
        · obtain ⟨t1, t2⟩ := hbn.out _ _ h1
          obtain ⟨t3, t4⟩ := hbe.out _ _ h2
          rw [show (kWord 4).toList = [115, 105, 103, 110, 97, 108] from hlit.out _] at t1 t2
          rw [show okW.toList = [111, 107] from hlit.out _] at t3 t4
          clear h1 h2
          go_wp2_with (fail)
          go_meet
          case rel => exact ⟨rfl, rfl⟩
        · obtain ⟨t1, t2⟩ := hbn.out _ _ h1
          obtain ⟨t3, t4⟩ := hbn.out _ _ h2
          obtain ⟨t5, t6⟩ := hbe.out _ _ h3
          rw [show (kWord 4).toList = [115, 105, 103, 110, 97, 108] from hlit.out _] at t1 t2
          rw [show okW.toList = [111, 107] from hlit.out _] at t3 t4
          rw [show failW.toList = [102, 97, 105, 108] from hlit.out _] at t5 t6
          clear h1 h2 h3
          go_wp2_with (fail)
          go_meet
          case rel => exact ⟨rfl, rfl⟩
      case rest =>
        obtain ⟨rfl, hwc⟩ := hcut
        have hwc2 := hwc.symm
        subst hwc2
        have ho : (r0.toList == okW.toList) = decide (r0 = okW) := ba_beq r0 okW
        rw [show okW.toList = [111, 107] from hlit.out _] at ho
        have hB := Aside0.mk (rfl : decide (r0 = okW) = decide (r0 = okW))
        generalize hBe : decide (r0 = okW) = B at ho
        have hBA := Aside0.mk hBe
        clear hBe hB
        obtain ⟨⟨-, -, -, -, -, -, c6⟩, -, -, -, -, -, -, d6⟩ := eff_cells hW.out.e
        go_upto_region 13 with (fail)
        have hW2 := Aside0.mk (hW.out.put (y := ⟨0, 0, 0, 0, [], 0, B⟩) (v' := .slice none 0 0) 6 (.bool B) rfl)
        clear c6 d6 hW s0 s1 ho
        generalize W.setCell _ _ = W2 at *
        obtain ⟨M, hM⟩ : ∃ M, r'.length + 1 = M := ⟨_, rfl⟩
        have hNM : N = M + 1 := by have := hNA.out; omega
        have hwN : wrap64 ((N : Int) - 1) = (M : Int) := by have := hNb.out; unfold wrap64; omega
        have hMN : (M : Int) < (N : Int) := by omega
        have hM0 : (0 : Int) ≤ (M : Int) := by omega
        have sl : W2.cell? ⟨gs, M, none⟩ = some (.string last) := by
          have := hW2.out.s (r'.length + 1) last hla.out
          rw [Nat.zero_add, hM] at this
          exact this
        have hMA := Aside0.mk hM
        have hNMA := Aside0.mk hNM
        clear hM hNM
        go_wp2_with (fail)
        refine (numb_ok last 10 18 _ (by omega) (by omega) (by omega) (by decide)).mono ?_
        rintro e w3 ⟨rfl, hb3⟩
        have hW3 := Aside0.mk (hW2.out.below hb3)
        clear hb3 hW2 sl
        generalize hV : numB 10 18 last.data.toList = V at *
        have hVA := Aside0.mk hV
        clear hV
        have s0 : w3.cell? ⟨gs, 0, none⟩ = some (.string w0) := hW3.out.s 0 _ rfl
        go_upto_region 17 with (fail)
        have hrA := Aside0.mk (show r0 = okW ∨ r0 = failW ∨ w0 = kWord 4 from hgA.out.elim (fun h => .inr (.inr h)) (fun h => h.elim (fun h => .inl h.2) (fun h => .inr (.inl h.2.2))))
        obtain ⟨hk0, hk1⟩ := hkA.out
        by_cases hk2 : w0 = kWord 2
        · have hwA := Aside0.mk hk2
          obtain ⟨x0, -⟩ := hbn.out w0 (kWord 0) hk0
          rw [show (kWord 0).toList = [103, 111, 116] from hlit.out _] at x0
          obtain ⟨x1, -⟩ := hbn.out w0 (kWord 1) hk1
          rw [show (kWord 1).toList = [119, 97, 115] from hlit.out _] at x1
          obtain ⟨x2, -⟩ := hbe.out w0 (kWord 2) hk2
          rw [show (kWord 2).toList = [119, 114, 111, 116, 101] from hlit.out _] at x2
          have hr1 : Aside0 (r0 = okW ∨ r0 = failW) := ⟨hrA.out.elim .inl (fun h => h.elim .inr (fun h => absurd (hk2.symm.trans h) (by decide)))⟩
          clear hk0 hk1 hk2
          by_cases h5 : N = 4
          · subst h5
            obtain ⟨a, b, rfl⟩ : ∃ a b, r' = [a, b] := by
              have h := hNA.out
              match r', h with
              | [a, b], _ => exact ⟨a, b, rfl⟩
            obtain rfl : last = b := by have := hla.out; exact (Option.some.inj this).symm
            have has : a.size ≤ 100000 := by have := hA.out.2.1 a (by simp); omega
            obtain ⟨⟨c0, -, -, -, -, -, -⟩, d0, -, -, -, -, -, -⟩ := eff_cells hW3.out.e
            go_upto_region 30 with (fail)
            have hW4 := Aside0.mk (hW3.out.put (y := ⟨2, 0, 0, 0, [], 0, B⟩) (v' := .slice none 0 0) 0 (.int .i64 2) rfl)
            clear c0 d0 hW3 s0
            generalize w3.setCell _ _ = W4 at *
            have s2 : W4.cell? ⟨gs, 2, none⟩ = some (.string a) := hW4.out.s 2 _ rfl
            go_wp2_with (fail)
            refine (refBytes_ok a has _).mono ?_
            rintro e w5 ⟨v, rfl, hR5, hb5⟩
            obtain ⟨A5, c5', rfl⟩ := Kd.R_slice hR5
            have hcc := Aside0.mk (Kd.R_reads' hR5).2.1
            have hg5 : g5 < W4.heap.size := blk_lt hW4.out.e
            have hl5 : w.heap.size + 1 ≤ W4.heap.size := by have := hW4.out.l5; omega
            have hR6 := Aside0.mk (Kd.R_lower (Kd.R_mono (ok' := fun k => k ≠ g5) (Kd.R_bound hR5) (fun k hk => by have := hk.2.1; omega)) hl5)
            have hW5 := Aside0.mk (hW4.out.below hb5)
            clear hb5 hR5 hg5 hl5 hW4 has s2
            generalize hT : toldOk a.data.toList = T at *
            generalize hD : toldL a.data.toList = D at *
            have hTD := Aside0.mk (And.intro hT hD)
            clear hT hD
            obtain ⟨⟨-, -, -, -, c4, -, -⟩, -, -, -, -, d4, -, -⟩ := eff_cells hW5.out.e
            go_upto_region 38 with (fail)
            have hR7 := Aside0.mk (Kd.R_far (p := ⟨g5, 4, none⟩) hR6.out (fun k hk => hk) (.slice A5 D.length c5'))
            have hW6 := Aside0.mk (hW5.out.put (y := ⟨2, 0, 0, 0, D, 0, B⟩) (v' := .slice A5 D.length c5') 4 (.slice A5 D.length c5') rfl)
            clear c4 d4 hW5 hR6
            generalize w5.setCell _ _ = W6 at *
            cases T
            · have hfin := Aside0.mk (readS_none hA.out.1 (by rw [hwA.out]; exact w7_wrote_no hr1.out (.inl hTD.out.1)))
              obtain ⟨⟨a0, a1, a2, a3, a4, a5, a6⟩, f0, f1, f2, f3, f4, f5, f6⟩ := eff_cells hW6.out.r
              obtain ⟨⟨c0, c1, c2, c3, c4, c5, c6⟩, -⟩ := eff_cells hW6.out.z
              go_wp2_with (fail)
              refine bodyPost_ret (results_ct rfl _ _ w.heap.size 27 (effC Eff.zero (.slice none 0 0)) (0, 0) _ rfl (by exact blk7 hW6.out.r _ _ _ _ _ _ _) Tryz.underlying27 rfl (by kernel_rfl)) rfl ?_
              rw [hfin.out]
              exact hW6.out.finish0 _ rfl _
            · by_cases hv : V < 0
              · have hfin := Aside0.mk (readS_none hA.out.1 (by rw [hwA.out]; exact w7_wrote_no hr1.out (.inr (by rw [hVA.out]; exact hv))))
                obtain ⟨⟨a0, a1, a2, a3, a4, a5, a6⟩, f0, f1, f2, f3, f4, f5, f6⟩ := eff_cells hW6.out.r
                obtain ⟨⟨c0, c1, c2, c3, c4, c5, c6⟩, -⟩ := eff_cells hW6.out.z
                go_wp2_with (fail)
                refine bodyPost_ret (results_ct rfl _ _ w.heap.size 27 (effC Eff.zero (.slice none 0 0)) (0, 0) _ rfl (by exact blk7 hW6.out.r _ _ _ _ _ _ _) Tryz.underlying27 rfl (by kernel_rfl)) rfl ?_
                rw [hfin.out]
                exact hW6.out.finish0 _ rfl _
              · have hfin := Aside0.mk (readS_some hA.out.1 (by rw [hwA.out]; exact w7_wrote hr1.out hTD.out.1 (by rw [hVA.out]; omega)))
                rw [hVA.out, hBA.out, hTD.out.2] at hfin
                obtain ⟨⟨-, -, -, -, -, c5, -⟩, -, -, -, -, -, d5, -⟩ := eff_cells hW6.out.e
                go_upto_region 41 with (fail)
                have hR8 := Aside0.mk (Kd.R_far (p := ⟨g5, 5, none⟩) hR7.out (fun k hk => hk) (.int .i64 V))
                have hW7 := Aside0.mk (hW6.out.put (y := ⟨2, 0, 0, 0, D, V, B⟩) (v' := .slice A5 D.length c5') 5 (.int .i64 V) rfl)
                clear c5 d5 hW6 hR7
                generalize W6.setCell _ _ = W7 at *
                obtain ⟨⟨a0, a1, a2, a3, a4, a5, a6⟩, f0, f1, f2, f3, f4, f5, f6⟩ := eff_cells hW7.out.r
                obtain ⟨⟨c0, c1, c2, c3, c4, c5, c6⟩, -⟩ := eff_cells hW7.out.e
                go_wp2_with (fail)
                refine bodyPost_ret (results_ct rfl _ _ w.heap.size 27 (effC ⟨2, 0, 0, 0, D, V, B⟩ (.slice A5 D.length c5')) (0, 0) _ rfl (by exact blk7 hW7.out.r _ _ _ _ _ _ _) Tryz.underlying27 rfl (by kernel_rfl)) rfl ?_
                rw [hfin.out]
                exact hW7.out.finish ⟨2, 0, 0, 0, D, V, B⟩ A5 c5' 0 (Kd.R_mono hR8.out (fun _ _ => trivial)) hcc.out
          · have hfin := Aside0.mk (readS_none hA.out.1 (by rw [hwA.out]; exact w7_len (k := 2) (by decide) (by have := hNA.out; show r'.length ≠ 2; omega)))
            have n1 : ((N : Int) == 4) = false := beq_eq_false_iff_ne.mpr (by omega)
            have n2 : ((N : Int) != 4) = true := by rw [bne, n1]; rfl
            clear h5
            obtain ⟨⟨a0, a1, a2, a3, a4, a5, a6⟩, f0, f1, f2, f3, f4, f5, f6⟩ := eff_cells hW3.out.r
            obtain ⟨⟨c0, c1, c2, c3, c4, c5, c6⟩, -⟩ := eff_cells hW3.out.z
            go_wp2_with (fail)
            refine bodyPost_ret (results_ct rfl _ _ w.heap.size 27 (effC Eff.zero (.slice none 0 0)) (0, 0) _ rfl (by exact blk7 hW3.out.r _ _ _ _ _ _ _) Tryz.underlying27 rfl (by kernel_rfl)) rfl ?_
            rw [hfin.out]
            exact hW3.out.finish0 _ rfl _
        by_cases hk3 : w0 = kWord 3
        · have hwA := Aside0.mk hk3
          obtain ⟨x0, -⟩ := hbn.out w0 (kWord 0) hk0
          rw [show (kWord 0).toList = [103, 111, 116] from hlit.out _] at x0
          obtain ⟨x1, -⟩ := hbn.out w0 (kWord 1) hk1
          rw [show (kWord 1).toList = [119, 97, 115] from hlit.out _] at x1
          obtain ⟨x2, -⟩ := hbn.out w0 (kWord 2) hk2
          rw [show (kWord 2).toList = [119, 114, 111, 116, 101] from hlit.out _] at x2
          obtain ⟨x3, -⟩ := hbe.out w0 (kWord 3) hk3
          rw [show (kWord 3).toList = [114, 101, 97, 100] from hlit.out _] at x3
          have hr1 : Aside0 (r0 = okW ∨ r0 = failW) := ⟨hrA.out.elim .inl (fun h => h.elim .inr (fun h => absurd (hk3.symm.trans h) (by decide)))⟩
          clear hk0 hk1 hk2 hk3
          obtain ⟨⟨c0, -, -, -, -, -, -⟩, d0, -, -, -, -, -, -⟩ := eff_cells hW3.out.e
          go_upto_region 33 with (fail)
          have hW4 := Aside0.mk (hW3.out.put (y := ⟨3, 0, 0, 0, [], 0, B⟩) (v' := .slice none 0 0) 0 (.int .i64 3) rfl)
          clear c0 d0 hW3 s0
          generalize w3.setCell _ _ = W4 at *
          by_cases h5 : N = 3
          · subst h5
            obtain ⟨a, rfl⟩ : ∃ a, r' = [a] := by
              have h := hNA.out
              match r', h with
              | [a], _ => exact ⟨a, rfl⟩
            obtain rfl : last = a := by have := hla.out; exact (Option.some.inj this).symm
            by_cases hv : V < 0
            · have hfin := Aside0.mk (readS_none hA.out.1 (by rw [hwA.out]; exact w7_read_no hr1.out (by rw [hVA.out]; exact hv)))
              obtain ⟨⟨a0, a1, a2, a3, a4, a5, a6⟩, f0, f1, f2, f3, f4, f5, f6⟩ := eff_cells hW4.out.r
              obtain ⟨⟨c0, c1, c2, c3, c4, c5, c6⟩, -⟩ := eff_cells hW4.out.z
              go_wp2_with (fail)
              refine bodyPost_ret (results_ct rfl _ _ w.heap.size 27 (effC Eff.zero (.slice none 0 0)) (0, 0) _ rfl (by exact blk7 hW4.out.r _ _ _ _ _ _ _) Tryz.underlying27 rfl (by kernel_rfl)) rfl ?_
              rw [hfin.out]
              exact hW4.out.finish0 _ rfl _
            · have hfin := Aside0.mk (readS_some hA.out.1 (by rw [hwA.out]; exact w7_read hr1.out (by rw [hVA.out]; omega)))
              rw [hVA.out, hBA.out] at hfin
              obtain ⟨⟨-, -, -, -, -, c5, -⟩, -, -, -, -, -, d5, -⟩ := eff_cells hW4.out.e
              go_upto_region 41 with (fail)
              have hW5 := Aside0.mk (hW4.out.put (y := ⟨3, 0, 0, 0, [], V, B⟩) (v' := .slice none 0 0) 5 (.int .i64 V) rfl)
              clear c5 d5 hW4 
              generalize W4.setCell _ _ = W5 at *
              obtain ⟨⟨a0, a1, a2, a3, a4, a5, a6⟩, f0, f1, f2, f3, f4, f5, f6⟩ := eff_cells hW5.out.r
              obtain ⟨⟨c0, c1, c2, c3, c4, c5, c6⟩, -⟩ := eff_cells hW5.out.e
              go_wp2_with (fail)
              refine bodyPost_ret (results_ct rfl _ _ w.heap.size 27 (effC ⟨3, 0, 0, 0, [], V, B⟩ (.slice none 0 0)) (0, 0) _ rfl (by exact blk7 hW5.out.r _ _ _ _ _ _ _) Tryz.underlying27 rfl (by kernel_rfl)) rfl ?_
              rw [hfin.out]
              exact hW5.out.finish0 _ rfl _
          · have hfin := Aside0.mk (readS_none hA.out.1 (by rw [hwA.out]; exact w7_len (k := 3) (by decide) (by have := hNA.out; show r'.length ≠ 1; omega)))
            have n1 : ((N : Int) == 3) = false := beq_eq_false_iff_ne.mpr (by omega)
            have n2 : ((N : Int) != 3) = true := by rw [bne, n1]; rfl
            clear h5
            obtain ⟨⟨a0, a1, a2, a3, a4, a5, a6⟩, f0, f1, f2, f3, f4, f5, f6⟩ := eff_cells hW4.out.r
            obtain ⟨⟨c0, c1, c2, c3, c4, c5, c6⟩, -⟩ := eff_cells hW4.out.z
            go_wp2_with (fail)
            refine bodyPost_ret (results_ct rfl _ _ w.heap.size 27 (effC Eff.zero (.slice none 0 0)) (0, 0) _ rfl (by exact blk7 hW4.out.r _ _ _ _ _ _ _) Tryz.underlying27 rfl (by kernel_rfl)) rfl ?_
            rw [hfin.out]
            exact hW4.out.finish0 _ rfl _
        by_cases hk4 : w0 = kWord 4
        · have hwA := Aside0.mk hk4
          obtain ⟨x0, -⟩ := hbn.out w0 (kWord 0) hk0
          rw [show (kWord 0).toList = [103, 111, 116] from hlit.out _] at x0
          obtain ⟨x1, -⟩ := hbn.out w0 (kWord 1) hk1
          rw [show (kWord 1).toList = [119, 97, 115] from hlit.out _] at x1
          obtain ⟨x2, -⟩ := hbn.out w0 (kWord 2) hk2
          rw [show (kWord 2).toList = [119, 114, 111, 116, 101] from hlit.out _] at x2
          obtain ⟨x3, -⟩ := hbn.out w0 (kWord 3) hk3
          rw [show (kWord 3).toList = [114, 101, 97, 100] from hlit.out _] at x3
          obtain ⟨x4, -⟩ := hbe.out w0 (kWord 4) hk4
          rw [show (kWord 4).toList = [115, 105, 103, 110, 97, 108] from hlit.out _] at x4
          clear hk0 hk1 hk2 hk3 hk4
          obtain ⟨⟨c0, -, -, -, -, -, -⟩, d0, -, -, -, -, -, -⟩ := eff_cells hW3.out.e
          go_upto_region 36 with (fail)
          have hW4 := Aside0.mk (hW3.out.put (y := ⟨4, 0, 0, 0, [], 0, B⟩) (v' := .slice none 0 0) 0 (.int .i64 4) rfl)
          clear c0 d0 hW3 s0
          generalize w3.setCell _ _ = W4 at *
          obtain ⟨⟨-, -, -, -, -, -, c6⟩, -, -, -, -, -, -, d6⟩ := eff_cells hW4.out.e
          go_upto_region 37 with (fail)
          have hW5 := Aside0.mk (hW4.out.put (y := ⟨4, 0, 0, 0, [], 0, false⟩) (v' := .slice none 0 0) 6 (.bool false) rfl)
          clear c6 d6 hW4 
          generalize W4.setCell _ _ = W5 at *
          by_cases h5 : N = 2
          · subst h5
            obtain rfl : r' = [] := List.eq_nil_of_length_eq_zero (by have := hNA.out; omega)
            obtain rfl : last = r0 := by have := hla.out; exact (Option.some.inj this).symm
            by_cases hv : V < 0
            · have hfin := Aside0.mk (readS_none hA.out.1 (by rw [hwA.out]; exact w7_signal_no (by rw [hVA.out]; exact hv)))
              obtain ⟨⟨a0, a1, a2, a3, a4, a5, a6⟩, f0, f1, f2, f3, f4, f5, f6⟩ := eff_cells hW5.out.r
              obtain ⟨⟨c0, c1, c2, c3, c4, c5, c6⟩, -⟩ := eff_cells hW5.out.z
              go_wp2_with (fail)
              refine bodyPost_ret (results_ct rfl _ _ w.heap.size 27 (effC Eff.zero (.slice none 0 0)) (0, 0) _ rfl (by exact blk7 hW5.out.r _ _ _ _ _ _ _) Tryz.underlying27 rfl (by kernel_rfl)) rfl ?_
              rw [hfin.out]
              exact hW5.out.finish0 _ rfl _
            · have hfin := Aside0.mk (readS_some hA.out.1 (by rw [hwA.out]; exact w7_signal (by rw [hVA.out]; omega)))
              rw [hVA.out] at hfin
              obtain ⟨⟨-, -, -, -, -, c5, -⟩, -, -, -, -, -, d5, -⟩ := eff_cells hW5.out.e
              go_upto_region 41 with (fail)
              have hW6 := Aside0.mk (hW5.out.put (y := ⟨4, 0, 0, 0, [], V, false⟩) (v' := .slice none 0 0) 5 (.int .i64 V) rfl)
              clear c5 d5 hW5 
              generalize W5.setCell _ _ = W6 at *
              obtain ⟨⟨a0, a1, a2, a3, a4, a5, a6⟩, f0, f1, f2, f3, f4, f5, f6⟩ := eff_cells hW6.out.r
              obtain ⟨⟨c0, c1, c2, c3, c4, c5, c6⟩, -⟩ := eff_cells hW6.out.e
              go_wp2_with (fail)
              refine bodyPost_ret (results_ct rfl _ _ w.heap.size 27 (effC ⟨4, 0, 0, 0, [], V, false⟩ (.slice none 0 0)) (0, 0) _ rfl (by exact blk7 hW6.out.r _ _ _ _ _ _ _) Tryz.underlying27 rfl (by kernel_rfl)) rfl ?_
              rw [hfin.out]
              exact hW6.out.finish0 _ rfl _
          · have hfin := Aside0.mk (readS_none hA.out.1 (by rw [hwA.out]; exact w7_len4 (by have := hNA.out; show r'.length + 1 ≠ 1; omega)))
            have n1 : ((N : Int) == 2) = false := beq_eq_false_iff_ne.mpr (by omega)
            have n2 : ((N : Int) != 2) = true := by rw [bne, n1]; rfl
            clear h5
            obtain ⟨⟨a0, a1, a2, a3, a4, a5, a6⟩, f0, f1, f2, f3, f4, f5, f6⟩ := eff_cells hW5.out.r
            obtain ⟨⟨c0, c1, c2, c3, c4, c5, c6⟩, -⟩ := eff_cells hW5.out.z
            go_wp2_with (fail)
            refine bodyPost_ret (results_ct rfl _ _ w.heap.size 27 (effC Eff.zero (.slice none 0 0)) (0, 0) _ rfl (by exact blk7 hW5.out.r _ _ _ _ _ _ _) Tryz.underlying27 rfl (by kernel_rfl)) rfl ?_
            rw [hfin.out]
            exact hW5.out.finish0 _ rfl _
        obtain ⟨x0, -⟩ := hbn.out w0 (kWord 0) hk0
        rw [show (kWord 0).toList = [103, 111, 116] from hlit.out _] at x0
        obtain ⟨x1, -⟩ := hbn.out w0 (kWord 1) hk1
        rw [show (kWord 1).toList = [119, 97, 115] from hlit.out _] at x1
        obtain ⟨x2, -⟩ := hbn.out w0 (kWord 2) hk2
        rw [show (kWord 2).toList = [119, 114, 111, 116, 101] from hlit.out _] at x2
        obtain ⟨x3, -⟩ := hbn.out w0 (kWord 3) hk3
        rw [show (kWord 3).toList = [114, 101, 97, 100] from hlit.out _] at x3
        obtain ⟨x4, -⟩ := hbn.out w0 (kWord 4) hk4
        rw [show (kWord 4).toList = [115, 105, 103, 110, 97, 108] from hlit.out _] at x4
        have hfin := Aside0.mk (readS_none hA.out.1 (w7_other w0 r0 r' hk0 hk1 hk2 hk3 hk4))
        clear hk0 hk1 hk2 hk3 hk4
        obtain ⟨⟨a0, a1, a2, a3, a4, a5, a6⟩, f0, f1, f2, f3, f4, f5, f6⟩ := eff_cells hW3.out.r
        obtain ⟨⟨c0, c1, c2, c3, c4, c5, c6⟩, -⟩ := eff_cells hW3.out.z
        go_wp2_with (fail)
        refine bodyPost_ret (results_ct rfl _ _ w.heap.size 27 (effC Eff.zero (.slice none 0 0)) (0, 0) _ rfl (by exact blk7 hW3.out.r _ _ _ _ _ _ _) Tryz.underlying27 rfl (by kernel_rfl)) rfl ?_
        rw [hfin.out]
        exact hW3.out.finish0 _ rfl _
theorem refRead_ok (s : ByteArray) (hs : s.size ≤ 2000) (w : World) : Calls Tryz.prog 14 #[.string s] w (RdS w (readS s.data.toList).1 (readS s.data.toList).2) := by
  obtain ⟨w0, r, hp⟩ : ∃ w0 r, pieces 32 s = w0 :: r := by
    unfold pieces
    rw [split_ne]
    exact ⟨_, _, rfl⟩
  by_cases h0 : w0 = kWord 0
  · exact refRd_0 s hs w0 r hp ⟨h0⟩ w
  · by_cases h1 : w0 = kWord 1
    · exact refRd_1 s hs w0 r hp ⟨h1⟩ w
    · exact refRd_2 s hs w0 r hp ⟨⟨h0, h1⟩⟩ w
end Go.Proofs.YtbiogabekhegaaaGreatDoor.Hand
