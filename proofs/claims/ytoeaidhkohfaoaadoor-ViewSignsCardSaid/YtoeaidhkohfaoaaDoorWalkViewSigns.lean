/- ViewSigns' walk. -/
import Derived.Test.YtoeaidhkohfaoaaDoorPViewChecksx1
import Derived.Test.YtoeaidhkohfaoaaDoorHandSigns
namespace Go.Proofs.YtoeaidhkohfaoaaDoor.Pure
open Go.RowKit Go.Proofs.YtoeaidhkohfaoaaDoor.PViewChecks Go.Proofs.YtoeaidhkohfaoaaDoor.Hand Go.Proofs.YtoeaidhkohfaoaaDoorW.PrintWords Go.Proofs.YtoeaidhkohfaoaaDoorW.PrintLast
set_option linter.unusedVariables false
set_option linter.unusedSimpArgs false
theorem alive_of (k : Nat) : whispererlaw13_alive.f k = some true := by
  unfold whispererlaw13_alive.f view_Render.f
  have h1 : checkI (⟨#[112, 119, 58, 32]⟩ : ByteArray) 1 0 = 0 := by decide +kernel
  have h2 : checkI (⟨#[112, 119, 58, 32]⟩ : ByteArray) 2 0 = 0 := by decide +kernel
  have h3 : rightB 1 3 1 = true := by decide +kernel
  have h4 : rightB 2 3 1 = true := by decide +kernel
  have h5 : (strOfNums (renderL (⟨#[112, 119, 58, 32]⟩ : ByteArray) 1 3 1)).toList = ([13, 112, 119, 58, 32, 42, 42, 42, 27, 91, 75, 27, 91, 50, 68] : List UInt8) := by decide +kernel
  have h6 : (strOfNums (renderL (⟨#[112, 119, 58, 32]⟩ : ByteArray) 2 3 1)).toList = ([13, 112, 119, 58, 32, 42, 42, 42, 42, 42, 42, 42, 42, 27, 91, 75] : List UInt8) := by decide +kernel
  have hs : (⟨#[112, 119, 58, 32]⟩ : ByteArray).size ≤ 9223372036854775807 := by decide
  rw [if_pos hs, if_pos hs, h1, h2, h3, h4]
  simp [h5, h6]
theorem alive_calls (w : World) (HT : TabV w) : Calls Tryd.prog 8 #[] w fun e w' => e = .returned (.bool true) ∧ Below w.heap.size w w' :=
  whispererlaw13_alive.calls 9 true w HT (alive_of 9)
end Go.Proofs.YtoeaidhkohfaoaaDoor.Pure
namespace Go.Proofs.YtoeaidhkohfaoaaDoor.Hand
open Go.RowKit Go.Proofs.YtoeaidhkohfaoaaDoor.Pure Go.Proofs.YtoeaidhkohfaoaaDoorW.PrintWords Go.Proofs.YtoeaidhkohfaoaaDoorW.PrintLast
set_option linter.unusedVariables false
set_option linter.unusedSimpArgs false

theorem Held.below {w w' : World} {g : Nat} {xs : List Int} (h : Held w g xs) (hb : Below w.heap.size w w') : Held w' g xs := (hb.block g (by
    unfold Held at h
    exact (Array.getElem?_eq_some_iff.1 h).1)).trans h
/-- A block that holds n bytes, whichever; none of them is frozen. -/
def Some_ (w : World) (g n : Nat) : Prop := ∃ xs : List Int, xs.length = n ∧ (∀ x ∈ xs, 0 ≤ x ∧ x ≤ 255) ∧ Held w g xs
theorem setCell_last (w : World) (cs : Array Value) (t : TypeId) (i : Nat) (v : Value) : (w.alloc (.cells cs t)).setCell ⟨w.heap.size, i, none⟩ v = w.alloc (.cells (cs.setIfInBounds i v) t) := by
  unfold World.setCell World.alloc
  simp only [World.mk.injEq, true_and, and_true]
  apply Array.ext
  · simp
  · intro j h1 h2
    simp only [Array.getElem_modify, Array.getElem_push]
    by_cases e : j < w.heap.size
    · rw [if_neg (by omega), dif_pos e, dif_pos e]
    · have : j = w.heap.size := by simp at h1; omega
      subst this
      simp
theorem store_last {P : Program} (w : World) (cs : Array Value) (t : TypeId) (i : Nat) (v : Value) (hv : v.oneCell' = true) (hi : i < cs.size) :
    (store ⟨w.heap.size, i, none⟩ v).run P (w.alloc (.cells cs t)) = .ok () (w.alloc (.cells (cs.setIfInBounds i v) t)) := by
  have hA : (w.alloc (.cells cs t)).heap[w.heap.size]? = some (.cells cs t (0, 0)) := heap_alloc_new w _
  have hc : (w.alloc (.cells cs t)).cell? ⟨w.heap.size, i, none⟩ = some cs[i] := (blk_cell hA i).trans (Array.getElem?_eq_getElem hi)
  rw [run_store _ _ _ _ _ hv, hc]
  simp [blk_frozen hA i, setCell_last]
theorem held_cell {w : World} {g : Nat} {xs : List Int} (h : Held w g xs) (j : Nat) (hj : j < xs.length) : w.cell? ⟨g, j, none⟩ = some (.int .u8 (xs.getD j 0)) := by
  unfold Held at h
  rw [cell_of_row w g j _ _ _ h]
  simp [List.getElem?_eq_getElem hj, List.getD_eq_getElem?_getD]
theorem held_str {w : World} {g : Nat} {xs : List Int} (h : Held w g xs) : (convert 25 9 (.slice (some ⟨g, 0, none⟩) xs.length xs.length)).run Tryd.prog w = .ok (.string (strOfNums xs)) w :=
  run_convert_bytes_arg w 25 5 Tryd.underlying25 Tryd.underlying5 g 0 xs.length xs.length xs rfl (fun i hi => by rw [Nat.zero_add]; exact held_cell h i hi) 9 Tryd.underlying9
theorem held_set {w : World} {g : Nat} {xs : List Int} (h : Held w g xs) (j : Nat) (x : Int) : Held (w.setCell ⟨g, j, none⟩ (.int .u8 x)) g (xs.set j x) := by
  unfold Held at h ⊢
  unfold World.setCell
  simp only [Array.getElem?_modify, h, List.length_set]
  simp [List.map_set]
theorem held_frozen {w : World} {g : Nat} {xs : List Int} (h : Held w g xs) (j : Nat) (hj : j < xs.length) : w.frozen? ⟨g, j, none⟩ = false := by
  unfold Held at h
  simp [World.frozen?, h]
  omega

theorem far_set (w : World) (g g' j : Nat) (v : Value) (h : g' ≠ g) : (w.setCell ⟨g, j, none⟩ v).heap[g']? = w.heap[g']? := by
  unfold World.setCell
  simp only [Array.getElem?_modify]
  rw [if_neg (fun e => h e.symm)]
theorem blk_far {w : World} {g g' : Nat} {o : Obj} (h : w.heap[g']? = some o) (hne : g' ≠ g) (j : Nat) (v : Value) : (w.setCell ⟨g, j, none⟩ v).heap[g']? = some o := (far_set w g g' j v hne).trans h
theorem held_far {w : World} {g g' : Nat} {xs : List Int} (h : Held w g' xs) (hne : g' ≠ g) (j : Nat) (v : Value) : Held (w.setCell ⟨g, j, none⟩ v) g' xs := (far_set w g g' j v hne).trans h
def rowL (g0 g1 g2 g3 : Nat) : Array Value := #[.slice (some ⟨g0, 0, none⟩) 1 1, .string ⟨#[7]⟩, .slice (some ⟨g1, 0, none⟩) 8 8, .string ⟨#[27, 91, 63, 50, 48, 48, 52, 104]⟩, .slice (some ⟨g2, 0, none⟩) 8 8, .string ⟨#[27, 91, 63, 50, 48, 48, 52, 108]⟩, .slice (some ⟨g3, 0, none⟩) 2 2, .string ⟨#[13, 10]⟩]

set_option maxHeartbeats 4000000 in
set_option maxRecDepth 100000 in
theorem ViewSigns_walk (c : Int) (w0 : (Lit.int .u8 c).wf = true) (w : World) (HT : TabV w) :
    Calls Tryd.prog 7 #[.int .u8 c] w fun e w' => e = .returned (.bool true) ∧ Below w.heap.size w w' := by
  have HB0 := Aside0.mk (Below.refl w.heap.size w)
  go_enter Tryd.func7, Tryd.ntmps7
  go_wp2_with (fail)
  go_loopg [6] 2 (fun kq v6 w' => ∃ r : Nat, v6 = .int .i64 r ∧ Aside0 (r ≤ 2 ∧ 2 - r ≤ kq) ∧ Aside0 (Below w.heap.size w w'))
  case atStart => exact ⟨0, rfl, ⟨by omega⟩, HB0⟩
  case round =>
    clear HB0
    obtain ⟨r, rfl, hk, HB⟩ := hrel
    have hk' := hk.out
    by_cases hr : r < 2
    · obtain ⟨k, rfl⟩ : ∃ k, gk = k + 1 := ⟨gk - 1, by omega⟩
      have f1 : (r : Int) < 2 := by omega
      have hk2 := Aside0.mk (show r + 1 ≤ 2 ∧ 2 - (r + 1) ≤ k by omega)
      clear hk' hk
      go_wp2_with (fail)
      refine (bell_ok _).mono ?_
      rintro e w1 ⟨g0, rfl, l0, m0, H0, b1⟩
      go_wp2_with (fail)
      refine (start_ok _).mono ?_
      rintro e w2 ⟨g1, rfl, l1, m1, H1, b2⟩
      go_wp2_with (fail)
      refine (stop_ok _).mono ?_
      rintro e w3 ⟨g2, rfl, l2, m2, H2, b3⟩
      go_wp2_with (fail)
      refine (close_ok _).mono ?_
      rintro e w4 ⟨g3, rfl, l3, m3, H3, b4⟩
      have z4 := Aside0.mk (((HB.out.trans (b1.mono HB.out.size)).trans (b2.mono (Nat.le_trans HB.out.size b1.size))).trans ((b3.trans (b4.mono b3.size)).mono (Nat.le_trans (Nat.le_trans HB.out.size b1.size) b2.size)))
      have K0 := ((H0.below b2).below b3).below b4
      have K1 := (H1.below b3).below b4
      have K2 := H2.below b4
      clear H0 H1 H2
      go_wp2_with (fail)
      have zS := Aside0.mk (below_alloc z4.out (.cells (rowL g0 g1 g2 g3) 45))
      have hS := Aside0.mk (show (w4.alloc (.cells (rowL g0 g1 g2 g3) 45)).heap[w4.heap.size]? = some (.cells (rowL g0 g1 g2 g3) 45 (0, 0)) from heap_alloc_new w4 _)
      have bb := below_alloc (Below.refl w4.heap.size w4) (.cells (rowL g0 g1 g2 g3) 45)
      have hH : Aside0 ((0 ≤ 0 → Held (w4.alloc (.cells (rowL g0 g1 g2 g3) 45)) g0 [7]) ∧ (0 ≤ 1 → Held (w4.alloc (.cells (rowL g0 g1 g2 g3) 45)) g1 [27, 91, 63, 50, 48, 48, 52, 104]) ∧ (0 ≤ 2 → Held (w4.alloc (.cells (rowL g0 g1 g2 g3) 45)) g2 [27, 91, 63, 50, 48, 48, 52, 108]) ∧ (0 ≤ 3 → Held (w4.alloc (.cells (rowL g0 g1 g2 g3) 45)) g3 [13, 10])) := ⟨fun _ => K0.below bb, fun _ => K1.below bb, fun _ => K2.below bb, fun _ => H3.below bb⟩
      have GD := Aside0.mk (show w.heap.size ≤ g0 ∧ g0 < g1 ∧ g1 < g2 ∧ g2 < g3 ∧ g3 < w4.heap.size by have := HB.out.size; omega)
      clear K0 K1 K2 H3 bb l0 l1 l2 l3 m0 m1 m2 m3 b1 b2 b3 b4 HB
      unfold rowL at hS zS hH
      generalize hS0 : w4.heap.size = S at *
      go_loopg [18] 4 (fun kq v18 w' => ∃ j : Nat, v18 = .int .i64 j ∧ Aside0 (j ≤ 4 ∧ 4 - j ≤ kq) ∧ Aside0 (w'.heap[S]? = some (.cells (rowL g0 g1 g2 g3) 45 (0, 0))) ∧ Aside0 ((j ≤ 0 → Held w' g0 [7]) ∧ (j ≤ 1 → Held w' g1 [27, 91, 63, 50, 48, 48, 52, 104]) ∧ (j ≤ 2 → Held w' g2 [27, 91, 63, 50, 48, 48, 52, 108]) ∧ (j ≤ 3 → Held w' g3 [13, 10])) ∧ Aside0 (Below w.heap.size w w'))
      case atStart => exact ⟨0, rfl, ⟨by omega⟩, hS, hH, zS⟩
      case round =>
        clear hS hH zS z4
        obtain ⟨j, rfl, hk3, HS, HH, HBw⟩ := hrel
        have hk3' := hk3.out
        obtain rfl | rfl | rfl | rfl | rfl : j = 0 ∨ j = 1 ∨ j = 2 ∨ j = 3 ∨ j = 4 := by omega
        · obtain ⟨k2, rfl⟩ : ∃ k2, gk = k2 + 1 := ⟨gk - 1, by omega⟩
          have e0 : wr.cell? ⟨S, 0, none⟩ = some (.slice (some ⟨g0, 0, none⟩) 1 1) := (blk_cell HS.out 0).trans rfl
          have e1 : wr.cell? ⟨S, 1, none⟩ = some (.string ⟨#[7]⟩) := (blk_cell HS.out 1).trans rfl
          have hX := HH.out.1 (by omega)
          have bx := Aside0.mk (below_alloc (Below.refl wr.heap.size wr) (.cells #[.slice (some ⟨g0, 0, none⟩) 1 1, .string ⟨#[7]⟩] 45))
          have hX' := hX.below bx.out
          have s0 := store_last (P := Tryd.prog) wr #[.slice none 0 0, .string ⟨#[]⟩] 45 0 (.slice (some ⟨g0, 0, none⟩) 1 1) rfl (by simp)
          have s1 := store_last (P := Tryd.prog) wr #[.slice (some ⟨g0, 0, none⟩) 1 1, .string ⟨#[]⟩] 45 1 (.string ⟨#[7]⟩) rfl (by simp)
          have cv : (convert 25 9 (.slice (some ⟨g0, 0, none⟩) 1 1)).run Tryd.prog _ = .ok (.string ⟨#[7]⟩) _ := held_str hX'
          have hXa := Aside0.mk hX'
          have hBx : Aside0 ((wr.alloc (.cells #[.slice (some ⟨g0, 0, none⟩) 1 1, .string ⟨#[7]⟩] 45)).heap[wr.heap.size]? = some (.cells #[.slice (some ⟨g0, 0, none⟩) 1 1, .string ⟨#[7]⟩] 45 (0, 0))) := ⟨heap_alloc_new wr _⟩
          have hSS : Aside0 ((wr.alloc (.cells #[.slice (some ⟨g0, 0, none⟩) 1 1, .string ⟨#[7]⟩] 45)).heap[S]? = some (.cells (rowL g0 g1 g2 g3) 45 (0, 0))) := ⟨(bx.out.block S (Array.getElem?_eq_some_iff.1 HS.out).1).trans HS.out⟩
          have hLt := Aside0.mk (show S < wr.heap.size from (Array.getElem?_eq_some_iff.1 HS.out).1)
          have hBB := Aside0.mk (HBw.out.trans (bx.out.mono HBw.out.size))
          have hk4 := Aside0.mk (show 1 ≤ 4 ∧ 4 - 1 ≤ k2 by omega)
          have N1 := Aside0.mk ((HH.out.2.1 (by omega)).below bx.out)
          have N2 := Aside0.mk ((HH.out.2.2.1 (by omega)).below bx.out)
          have N3 := Aside0.mk ((HH.out.2.2.2 (by omega)).below bx.out)
          clear hX hX' hk3' hk3
          go_wp2_with (fail)
          clear s0 s1 cv
          generalize hX0 : wr.heap.size = X at *
          go_loopg [31] 1 (fun kq v31 w'' => ∃ t : Nat, v31 = .int .i64 t ∧ Aside0 (t ≤ 1 ∧ 1 - t ≤ kq) ∧ Aside0 (∃ ys : List Int, ys.length = 1 ∧ Held w'' g0 ys) ∧ Aside0 (w''.heap[X]? = some (.cells #[.slice (some ⟨g0, 0, none⟩) 1 1, .string ⟨#[7]⟩] 45 (0, 0))) ∧ Aside0 (w''.heap[S]? = some (.cells (rowL g0 g1 g2 g3) 45 (0, 0))) ∧ Aside0 (Held w'' g1 [27, 91, 63, 50, 48, 48, 52, 104]) ∧ Aside0 (Held w'' g2 [27, 91, 63, 50, 48, 48, 52, 108]) ∧ Aside0 (Held w'' g3 [13, 10]) ∧ Aside0 (Below w.heap.size w w''))
          case atStart => exact ⟨0, rfl, ⟨by omega⟩, ⟨_, rfl, hXa.out⟩, hBx, hSS, N1, N2, N3, hBB⟩
          case round =>
            clear hXa hBx hSS hBB HS HH HBw bx N1 N2 N3
            obtain ⟨t, rfl, hk5, HY, HBx, HS, M1, M2, M3, HBw⟩ := hrel
            obtain ⟨ys, hyl, hY⟩ := HY.out
            have hk5' := hk5.out
            by_cases ht : t < 1
            · obtain ⟨k3, rfl⟩ : ∃ k3, gk = k3 + 1 := ⟨gk - 1, by omega⟩
              have b0 := (blk_cell HBx.out 0).trans rfl
              have y0 := held_cell hY t (by omega)
              have z0 := held_frozen hY t (by omega)
              have f3 : (t : Int) < 1 := by omega
              have hk6 := Aside0.mk (show t + 1 ≤ 1 ∧ 1 - (t + 1) ≤ k3 by omega)
              have hYa := Aside0.mk hY
              have hyl' := Aside0.mk hyl
              clear hY hk5' hk5 hyl
              go_wp2_with (fail)
              go_roundg k3
              case measure => omega
              case rel => exact ⟨t + 1, by simp, hk6, ⟨_, by rw [List.length_set]; exact hyl'.out, held_set hYa.out t _⟩, ⟨blk_far HBx.out (by have := GD.out; have := hLt.out; omega) t _⟩, ⟨blk_far HS.out (by have := GD.out; omega) t _⟩, ⟨held_far M1.out (by have := GD.out; omega) t _⟩, ⟨held_far M2.out (by have := GD.out; omega) t _⟩, ⟨held_far M3.out (by have := GD.out; omega) t _⟩, ⟨below_set HBw.out (by have := GD.out; omega)⟩⟩
            · obtain rfl : t = 1 := by omega
              clear hk5' hk5 hY hyl
              go_wp2_with (fail)
              go_roundg k2
              case measure => omega
              case rel => exact ⟨1, rfl, hk4, HS, ⟨fun h => absurd h (by omega), fun _ => M1.out, fun _ => M2.out, fun _ => M3.out⟩, HBw⟩
        · obtain ⟨k2, rfl⟩ : ∃ k2, gk = k2 + 1 := ⟨gk - 1, by omega⟩
          have e0 : wr.cell? ⟨S, 2, none⟩ = some (.slice (some ⟨g1, 0, none⟩) 8 8) := (blk_cell HS.out 2).trans rfl
          have e1 : wr.cell? ⟨S, 3, none⟩ = some (.string ⟨#[27, 91, 63, 50, 48, 48, 52, 104]⟩) := (blk_cell HS.out 3).trans rfl
          have hX := HH.out.2.1 (by omega)
          have bx := Aside0.mk (below_alloc (Below.refl wr.heap.size wr) (.cells #[.slice (some ⟨g1, 0, none⟩) 8 8, .string ⟨#[27, 91, 63, 50, 48, 48, 52, 104]⟩] 45))
          have hX' := hX.below bx.out
          have s0 := store_last (P := Tryd.prog) wr #[.slice none 0 0, .string ⟨#[]⟩] 45 0 (.slice (some ⟨g1, 0, none⟩) 8 8) rfl (by simp)
          have s1 := store_last (P := Tryd.prog) wr #[.slice (some ⟨g1, 0, none⟩) 8 8, .string ⟨#[]⟩] 45 1 (.string ⟨#[27, 91, 63, 50, 48, 48, 52, 104]⟩) rfl (by simp)
          have cv : (convert 25 9 (.slice (some ⟨g1, 0, none⟩) 8 8)).run Tryd.prog _ = .ok (.string ⟨#[27, 91, 63, 50, 48, 48, 52, 104]⟩) _ := held_str hX'
          have hXa := Aside0.mk hX'
          have hBx : Aside0 ((wr.alloc (.cells #[.slice (some ⟨g1, 0, none⟩) 8 8, .string ⟨#[27, 91, 63, 50, 48, 48, 52, 104]⟩] 45)).heap[wr.heap.size]? = some (.cells #[.slice (some ⟨g1, 0, none⟩) 8 8, .string ⟨#[27, 91, 63, 50, 48, 48, 52, 104]⟩] 45 (0, 0))) := ⟨heap_alloc_new wr _⟩
          have hSS : Aside0 ((wr.alloc (.cells #[.slice (some ⟨g1, 0, none⟩) 8 8, .string ⟨#[27, 91, 63, 50, 48, 48, 52, 104]⟩] 45)).heap[S]? = some (.cells (rowL g0 g1 g2 g3) 45 (0, 0))) := ⟨(bx.out.block S (Array.getElem?_eq_some_iff.1 HS.out).1).trans HS.out⟩
          have hLt := Aside0.mk (show S < wr.heap.size from (Array.getElem?_eq_some_iff.1 HS.out).1)
          have hBB := Aside0.mk (HBw.out.trans (bx.out.mono HBw.out.size))
          have hk4 := Aside0.mk (show 2 ≤ 4 ∧ 4 - 2 ≤ k2 by omega)
          have N2 := Aside0.mk ((HH.out.2.2.1 (by omega)).below bx.out)
          have N3 := Aside0.mk ((HH.out.2.2.2 (by omega)).below bx.out)
          clear hX hX' hk3' hk3
          go_wp2_with (fail)
          clear s0 s1 cv
          generalize hX0 : wr.heap.size = X at *
          go_loopg [31] 8 (fun kq v31 w'' => ∃ t : Nat, v31 = .int .i64 t ∧ Aside0 (t ≤ 8 ∧ 8 - t ≤ kq) ∧ Aside0 (∃ ys : List Int, ys.length = 8 ∧ Held w'' g1 ys) ∧ Aside0 (w''.heap[X]? = some (.cells #[.slice (some ⟨g1, 0, none⟩) 8 8, .string ⟨#[27, 91, 63, 50, 48, 48, 52, 104]⟩] 45 (0, 0))) ∧ Aside0 (w''.heap[S]? = some (.cells (rowL g0 g1 g2 g3) 45 (0, 0))) ∧ Aside0 (Held w'' g2 [27, 91, 63, 50, 48, 48, 52, 108]) ∧ Aside0 (Held w'' g3 [13, 10]) ∧ Aside0 (Below w.heap.size w w''))
          case atStart => exact ⟨0, rfl, ⟨by omega⟩, ⟨_, rfl, hXa.out⟩, hBx, hSS, N2, N3, hBB⟩
          case round =>
            clear hXa hBx hSS hBB HS HH HBw bx N2 N3
            obtain ⟨t, rfl, hk5, HY, HBx, HS, M2, M3, HBw⟩ := hrel
            obtain ⟨ys, hyl, hY⟩ := HY.out
            have hk5' := hk5.out
            by_cases ht : t < 8
            · obtain ⟨k3, rfl⟩ : ∃ k3, gk = k3 + 1 := ⟨gk - 1, by omega⟩
              have b0 := (blk_cell HBx.out 0).trans rfl
              have y0 := held_cell hY t (by omega)
              have z0 := held_frozen hY t (by omega)
              have f3 : (t : Int) < 8 := by omega
              have hk6 := Aside0.mk (show t + 1 ≤ 8 ∧ 8 - (t + 1) ≤ k3 by omega)
              have hYa := Aside0.mk hY
              have hyl' := Aside0.mk hyl
              clear hY hk5' hk5 hyl
              go_wp2_with (fail)
              go_roundg k3
              case measure => omega
              case rel => exact ⟨t + 1, by simp, hk6, ⟨_, by rw [List.length_set]; exact hyl'.out, held_set hYa.out t _⟩, ⟨blk_far HBx.out (by have := GD.out; have := hLt.out; omega) t _⟩, ⟨blk_far HS.out (by have := GD.out; omega) t _⟩, ⟨held_far M2.out (by have := GD.out; omega) t _⟩, ⟨held_far M3.out (by have := GD.out; omega) t _⟩, ⟨below_set HBw.out (by have := GD.out; omega)⟩⟩
            · obtain rfl : t = 8 := by omega
              clear hk5' hk5 hY hyl
              go_wp2_with (fail)
              go_roundg k2
              case measure => omega
              case rel => exact ⟨2, rfl, hk4, HS, ⟨fun h => absurd h (by omega), fun h => absurd h (by omega), fun _ => M2.out, fun _ => M3.out⟩, HBw⟩
        · obtain ⟨k2, rfl⟩ : ∃ k2, gk = k2 + 1 := ⟨gk - 1, by omega⟩
          have e0 : wr.cell? ⟨S, 4, none⟩ = some (.slice (some ⟨g2, 0, none⟩) 8 8) := (blk_cell HS.out 4).trans rfl
          have e1 : wr.cell? ⟨S, 5, none⟩ = some (.string ⟨#[27, 91, 63, 50, 48, 48, 52, 108]⟩) := (blk_cell HS.out 5).trans rfl
          have hX := HH.out.2.2.1 (by omega)
          have bx := Aside0.mk (below_alloc (Below.refl wr.heap.size wr) (.cells #[.slice (some ⟨g2, 0, none⟩) 8 8, .string ⟨#[27, 91, 63, 50, 48, 48, 52, 108]⟩] 45))
          have hX' := hX.below bx.out
          have s0 := store_last (P := Tryd.prog) wr #[.slice none 0 0, .string ⟨#[]⟩] 45 0 (.slice (some ⟨g2, 0, none⟩) 8 8) rfl (by simp)
          have s1 := store_last (P := Tryd.prog) wr #[.slice (some ⟨g2, 0, none⟩) 8 8, .string ⟨#[]⟩] 45 1 (.string ⟨#[27, 91, 63, 50, 48, 48, 52, 108]⟩) rfl (by simp)
          have cv : (convert 25 9 (.slice (some ⟨g2, 0, none⟩) 8 8)).run Tryd.prog _ = .ok (.string ⟨#[27, 91, 63, 50, 48, 48, 52, 108]⟩) _ := held_str hX'
          have hXa := Aside0.mk hX'
          have hBx : Aside0 ((wr.alloc (.cells #[.slice (some ⟨g2, 0, none⟩) 8 8, .string ⟨#[27, 91, 63, 50, 48, 48, 52, 108]⟩] 45)).heap[wr.heap.size]? = some (.cells #[.slice (some ⟨g2, 0, none⟩) 8 8, .string ⟨#[27, 91, 63, 50, 48, 48, 52, 108]⟩] 45 (0, 0))) := ⟨heap_alloc_new wr _⟩
          have hSS : Aside0 ((wr.alloc (.cells #[.slice (some ⟨g2, 0, none⟩) 8 8, .string ⟨#[27, 91, 63, 50, 48, 48, 52, 108]⟩] 45)).heap[S]? = some (.cells (rowL g0 g1 g2 g3) 45 (0, 0))) := ⟨(bx.out.block S (Array.getElem?_eq_some_iff.1 HS.out).1).trans HS.out⟩
          have hLt := Aside0.mk (show S < wr.heap.size from (Array.getElem?_eq_some_iff.1 HS.out).1)
          have hBB := Aside0.mk (HBw.out.trans (bx.out.mono HBw.out.size))
          have hk4 := Aside0.mk (show 3 ≤ 4 ∧ 4 - 3 ≤ k2 by omega)
          have N3 := Aside0.mk ((HH.out.2.2.2 (by omega)).below bx.out)
          clear hX hX' hk3' hk3
          go_wp2_with (fail)
          clear s0 s1 cv
          generalize hX0 : wr.heap.size = X at *
          go_loopg [31] 8 (fun kq v31 w'' => ∃ t : Nat, v31 = .int .i64 t ∧ Aside0 (t ≤ 8 ∧ 8 - t ≤ kq) ∧ Aside0 (∃ ys : List Int, ys.length = 8 ∧ Held w'' g2 ys) ∧ Aside0 (w''.heap[X]? = some (.cells #[.slice (some ⟨g2, 0, none⟩) 8 8, .string ⟨#[27, 91, 63, 50, 48, 48, 52, 108]⟩] 45 (0, 0))) ∧ Aside0 (w''.heap[S]? = some (.cells (rowL g0 g1 g2 g3) 45 (0, 0))) ∧ Aside0 (Held w'' g3 [13, 10]) ∧ Aside0 (Below w.heap.size w w''))
          case atStart => exact ⟨0, rfl, ⟨by omega⟩, ⟨_, rfl, hXa.out⟩, hBx, hSS, N3, hBB⟩
          case round =>
            clear hXa hBx hSS hBB HS HH HBw bx N3
            obtain ⟨t, rfl, hk5, HY, HBx, HS, M3, HBw⟩ := hrel
            obtain ⟨ys, hyl, hY⟩ := HY.out
            have hk5' := hk5.out
            by_cases ht : t < 8
            · obtain ⟨k3, rfl⟩ : ∃ k3, gk = k3 + 1 := ⟨gk - 1, by omega⟩
              have b0 := (blk_cell HBx.out 0).trans rfl
              have y0 := held_cell hY t (by omega)
              have z0 := held_frozen hY t (by omega)
              have f3 : (t : Int) < 8 := by omega
              have hk6 := Aside0.mk (show t + 1 ≤ 8 ∧ 8 - (t + 1) ≤ k3 by omega)
              have hYa := Aside0.mk hY
              have hyl' := Aside0.mk hyl
              clear hY hk5' hk5 hyl
              go_wp2_with (fail)
              go_roundg k3
              case measure => omega
              case rel => exact ⟨t + 1, by simp, hk6, ⟨_, by rw [List.length_set]; exact hyl'.out, held_set hYa.out t _⟩, ⟨blk_far HBx.out (by have := GD.out; have := hLt.out; omega) t _⟩, ⟨blk_far HS.out (by have := GD.out; omega) t _⟩, ⟨held_far M3.out (by have := GD.out; omega) t _⟩, ⟨below_set HBw.out (by have := GD.out; omega)⟩⟩
            · obtain rfl : t = 8 := by omega
              clear hk5' hk5 hY hyl
              go_wp2_with (fail)
              go_roundg k2
              case measure => omega
              case rel => exact ⟨3, rfl, hk4, HS, ⟨fun h => absurd h (by omega), fun h => absurd h (by omega), fun h => absurd h (by omega), fun _ => M3.out⟩, HBw⟩
        · obtain ⟨k2, rfl⟩ : ∃ k2, gk = k2 + 1 := ⟨gk - 1, by omega⟩
          have e0 : wr.cell? ⟨S, 6, none⟩ = some (.slice (some ⟨g3, 0, none⟩) 2 2) := (blk_cell HS.out 6).trans rfl
          have e1 : wr.cell? ⟨S, 7, none⟩ = some (.string ⟨#[13, 10]⟩) := (blk_cell HS.out 7).trans rfl
          have hX := HH.out.2.2.2 (by omega)
          have bx := Aside0.mk (below_alloc (Below.refl wr.heap.size wr) (.cells #[.slice (some ⟨g3, 0, none⟩) 2 2, .string ⟨#[13, 10]⟩] 45))
          have hX' := hX.below bx.out
          have s0 := store_last (P := Tryd.prog) wr #[.slice none 0 0, .string ⟨#[]⟩] 45 0 (.slice (some ⟨g3, 0, none⟩) 2 2) rfl (by simp)
          have s1 := store_last (P := Tryd.prog) wr #[.slice (some ⟨g3, 0, none⟩) 2 2, .string ⟨#[]⟩] 45 1 (.string ⟨#[13, 10]⟩) rfl (by simp)
          have cv : (convert 25 9 (.slice (some ⟨g3, 0, none⟩) 2 2)).run Tryd.prog _ = .ok (.string ⟨#[13, 10]⟩) _ := held_str hX'
          have hXa := Aside0.mk hX'
          have hBx : Aside0 ((wr.alloc (.cells #[.slice (some ⟨g3, 0, none⟩) 2 2, .string ⟨#[13, 10]⟩] 45)).heap[wr.heap.size]? = some (.cells #[.slice (some ⟨g3, 0, none⟩) 2 2, .string ⟨#[13, 10]⟩] 45 (0, 0))) := ⟨heap_alloc_new wr _⟩
          have hSS : Aside0 ((wr.alloc (.cells #[.slice (some ⟨g3, 0, none⟩) 2 2, .string ⟨#[13, 10]⟩] 45)).heap[S]? = some (.cells (rowL g0 g1 g2 g3) 45 (0, 0))) := ⟨(bx.out.block S (Array.getElem?_eq_some_iff.1 HS.out).1).trans HS.out⟩
          have hLt := Aside0.mk (show S < wr.heap.size from (Array.getElem?_eq_some_iff.1 HS.out).1)
          have hBB := Aside0.mk (HBw.out.trans (bx.out.mono HBw.out.size))
          have hk4 := Aside0.mk (show 4 ≤ 4 ∧ 4 - 4 ≤ k2 by omega)
          clear hX hX' hk3' hk3
          go_wp2_with (fail)
          clear s0 s1 cv
          generalize hX0 : wr.heap.size = X at *
          go_loopg [31] 2 (fun kq v31 w'' => ∃ t : Nat, v31 = .int .i64 t ∧ Aside0 (t ≤ 2 ∧ 2 - t ≤ kq) ∧ Aside0 (∃ ys : List Int, ys.length = 2 ∧ Held w'' g3 ys) ∧ Aside0 (w''.heap[X]? = some (.cells #[.slice (some ⟨g3, 0, none⟩) 2 2, .string ⟨#[13, 10]⟩] 45 (0, 0))) ∧ Aside0 (w''.heap[S]? = some (.cells (rowL g0 g1 g2 g3) 45 (0, 0))) ∧ Aside0 (Below w.heap.size w w''))
          case atStart => exact ⟨0, rfl, ⟨by omega⟩, ⟨_, rfl, hXa.out⟩, hBx, hSS, hBB⟩
          case round =>
            clear hXa hBx hSS hBB HS HH HBw bx 
            obtain ⟨t, rfl, hk5, HY, HBx, HS, HBw⟩ := hrel
            obtain ⟨ys, hyl, hY⟩ := HY.out
            have hk5' := hk5.out
            by_cases ht : t < 2
            · obtain ⟨k3, rfl⟩ : ∃ k3, gk = k3 + 1 := ⟨gk - 1, by omega⟩
              have b0 := (blk_cell HBx.out 0).trans rfl
              have y0 := held_cell hY t (by omega)
              have z0 := held_frozen hY t (by omega)
              have f3 : (t : Int) < 2 := by omega
              have hk6 := Aside0.mk (show t + 1 ≤ 2 ∧ 2 - (t + 1) ≤ k3 by omega)
              have hYa := Aside0.mk hY
              have hyl' := Aside0.mk hyl
              clear hY hk5' hk5 hyl
              go_wp2_with (fail)
              go_roundg k3
              case measure => omega
              case rel => exact ⟨t + 1, by simp, hk6, ⟨_, by rw [List.length_set]; exact hyl'.out, held_set hYa.out t _⟩, ⟨blk_far HBx.out (by have := GD.out; have := hLt.out; omega) t _⟩, ⟨blk_far HS.out (by have := GD.out; omega) t _⟩, ⟨below_set HBw.out (by have := GD.out; omega)⟩⟩
            · obtain rfl : t = 2 := by omega
              clear hk5' hk5 hY hyl
              go_wp2_with (fail)
              go_roundg k2
              case measure => omega
              case rel => exact ⟨4, rfl, hk4, HS, ⟨fun h => absurd h (by omega), fun h => absurd h (by omega), fun h => absurd h (by omega), fun h => absurd h (by omega)⟩, HBw⟩
        · go_wp2_with (fail)
          go_roundg k
          case measure => omega
          case rel => exact ⟨r + 1, by simp, hk2, HBw⟩
    · obtain rfl : r = 2 := by omega
      have ha := alive_calls _ (HT.below HB.out)
      clear hk' hk
      go_wp2_with (fail)
      refine ha.mono ?_
      rintro e w1 ⟨rfl, hb1⟩
      go_wp2_with (fail)
      go_ret
      exact ⟨rfl, HB.out.trans (hb1.mono HB.out.size)⟩

end Go.Proofs.YtoeaidhkohfaoaaDoor.Hand
