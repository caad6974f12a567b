/- EscseqKnown, walked by hand. -/
import Derived.Test.YtjlfpkgnkgbhiaaHandEscKnownAll
import Derived.Test.YtjlfpkgnkgbhiaaHandMarked
import Derived.Test.YtjlfpkgnkgbhiaaPKnownx1
import Derived.Test.YtjlfpkgnkgbhiaaPBeginsx1
import Derived.Test.YtjlfpkgnkgbhiaaPlainEsc
namespace Go.Proofs.Ytjlfpkgnkgbhiaa.Hand
open Go.RowKit Go.Proofs.YtjlfpkgnkgbhiaaW.PrintWords Go.Proofs.YtjlfpkgnkgbhiaaW.PrintLast Go.Proofs.Ytjlfpkgnkgbhiaa.PKnown Go.Proofs.Ytjlfpkgnkgbhiaa.PBegins
set_option linter.unusedVariables false
set_option linter.unusedSimpArgs false

theorem ref_known : whispererref09_Known.f 20 = some knownL := by decide +kernel

theorem infoU8 : (Try.prog.info? 5).map (fun i => (i.zero, i.size, i.bytes)) = some (some (.int .u8 0), 1, 1) := by kernel_rfl

def kn (i : Nat) : ByteArray := knownL.getD i ⟨#[]⟩

theorem known_app (L t : List Int) (q m : Int) (h : nextL L = (q, 0, m, 0)) : nextL (L ++ t) = (q, 0, m, 0) := by
  rcases next_spec L with ⟨e, h1, _, h3, _⟩ | ⟨h1, _⟩ | ⟨q', m', h1, _, _, _, h5, _⟩
  · rw [h] at h1
    simp only [Prod.mk.injEq] at h1
    exact absurd h1.2.2.2.symm h3
  · rw [h] at h1
    simp only [Prod.mk.injEq] at h1
    exact absurd h1.2.2.2 (by decide)
  · rw [h] at h1
    rw [h5 t, ← h1]
def kq (j : Nat) : Int := (nextL (bytesOf (kn j))).1
theorem kn_next : ∀ j, j < 15 → nextL (bytesOf (kn j)) = (kq j, 0, ((kn j).size : Int), 0) ∧ (kq j == 15) = false := by decide +kernel

theorem kn_begins : ∀ i, i < 15 → ∀ j, j < 6 → (1 ≤ j ∧ j < (kn i).size) → escseq_Begins.f (bytesOf ((kn i).extract 0 j)) = some true := by decide +kernel
theorem kn_size : ∀ j, j < 15 → 1 ≤ (kn j).size ∧ (kn j).size ≤ 6 := by decide +kernel

set_option maxHeartbeats 2000000 in
set_option maxRecDepth 100000 in
theorem known_law (A1 : Option Addr) (c1 : Nat) (l1 : List Int) (w : World) (hr1 : Kd.C (Kd.int .u8) w A1 l1.length l1) (hc1 : l1.length ≤ c1) :
    Calls Try.prog 8 #[.slice A1 l1.length c1] w fun e w' => e = .returned (.bool true) ∧ Below w.heap.size w w' := by
  have HR := Aside0.mk hr1
  clear hr1
  go_enter Try.func8, Try.ntmps8
  go_wp2_with (fail)
  refine (escseq_Known.calls knownL _ rfl).mono ?_
  rintro e w1 ⟨v0, rfl, hv0, b1⟩
  have B1 := Aside0.mk b1
  have V0 := Aside0.mk hv0
  clear b1 hv0
  go_wp2_with (fail)
  refine (whispererref09_Known.calls 20 knownL _ ref_known).mono ?_
  rintro e w2 ⟨v1, rfl, hv1, b2⟩
  have hv0 := Kd.R_below V0.out b2
  have e15 : knownL.length = 15 := rfl
  obtain ⟨A0, k0, ev0⟩ := Kd.V_slice (Kd.R_V (base' := 0) hv0)
  rw [e15] at ev0
  subst ev0
  obtain ⟨A2, k2, ev1⟩ := Kd.V_slice (Kd.R_V (base' := 0) hv1)
  rw [e15] at ev1
  subst ev1
  have r0 := Aside0.mk (Kd.F_now (Kd.V_F (Kd.R_V (base' := 0) hv0)))
  have r1 := Aside0.mk (Kd.F_now (Kd.V_F (Kd.R_V (base' := 0) hv1)))
  have z2 := Aside0.mk (show Below w.heap.size w w2 from B1.out.trans (b2.mono B1.out.size))
  clear hv0 hv1 V0 B1 b2 e15
  go_wp2_with (fail)
  refine (whispererlaw09_alive.calls true _ rfl).mono ?_
  rintro e w3 ⟨rfl, b3⟩
  have z3 := Aside0.mk (show Below w2.heap.size w2 w3 from b3)
  clear b3
  by_cases hbig : (1000 : Int) < (l1.length : Int)
  · have hb := decide_eq_true hbig
    go_wp2_with (fail)
    refine (whispererlaw09_alive.calls true _ rfl).mono ?_
    rintro e w4 ⟨rfl, b4⟩
    have z4 := Aside0.mk b4
    clear b4
    go_wp2_with (fail)
    go_ret
    exact ⟨by first | rfl | simp, z2.out.trans ((z3.out.mono z2.out.size).trans (z4.out.mono (Nat.le_trans z2.out.size z3.out.size)))⟩
  · have hb := decide_eq_false hbig
    go_wp2_with (fail)
    have q0 := Kd.reads_of_C (d := (⟨#[]⟩ : ByteArray)) r0.out
    have q1 := Kd.reads_of_C (d := (⟨#[]⟩ : ByteArray)) r1.out
    obtain ⟨⟨g0, o0, p0⟩, rfl, hc0⟩ := q0.2.2 (by decide)
    obtain ⟨⟨g1, o1, p1⟩, rfl, hc2⟩ := q1.2.2 (by decide)
    have hp0 : p0 = none := by simpa [Addr.add] using World.cell?_spot (hc0 0 (by decide))
    have hp1 : p1 = none := by simpa [Addr.add] using World.cell?_spot (hc2 0 (by decide))
    subst hp0 hp1
    have C0 := Aside0.mk (show ∀ j, j < 15 → w2.cell? ⟨g0, o0 + j, none⟩ = some (.string (kn j)) from fun j hj => by have := hc0 j hj; rwa [add_at] at this)
    have C1 := Aside0.mk (show ∀ j, j < 15 → w2.cell? ⟨g1, o1 + j, none⟩ = some (.string (kn j)) from fun j hj => by have := hc2 j hj; rwa [add_at] at this)
    clear hc0 hc2 q0 q1 r0 r1
    have kcv := fun (W : World) (s : ByteArray) => run_bytes_of_string (P := Try.prog) W 9 22 5 s Try.underlying9 Try.underlying22 Try.underlying5
    obtain ⟨ii, hii, hiz, hisz, hiby⟩ := info_parts infoU8
    have hsz := Aside0.mk (show ∀ j, j < 15 → (bytesOf (kn j)).length ≤ 6 from by decide +kernel)
    go_loopw [37] (fun v37 wr => ∃ i : Nat, v37 = .int .i64 i ∧ Aside0 (i ≤ 15) ∧ Aside0 (Below w2.heap.size w2 wr)) (fun v37 _ => match v37 with | .int _ i => (15 - i).toNat | _ => 0)
    case atStart => exact ⟨0, rfl, ⟨by decide⟩, ⟨z3.out⟩⟩
    case round =>
      obtain ⟨i, rfl, hi, hz⟩ := hrel
      by_cases h15 : i = 15
      · subst h15
        go_wp2_with (fail)
        go_ret
        exact ⟨by first | rfl | simp, z2.out.trans (hz.out.mono z2.out.size)⟩
      · have hlt : i < 15 := by have := hi.out; omega
        have hd : decide ((i : Int) < 15) = true := decide_eq_true (by omega)
        have hcell0 := (hz.out.cell (World.block_lt_of_cell? w2 _ (C0.out i hlt))).trans (C0.out i hlt)
        have hcell1 := (hz.out.cell (World.block_lt_of_cell? w2 _ (C1.out i hlt))).trans (C1.out i hlt)
        obtain ⟨m1, m2, m3⟩ := marked_row wr (kn i) 5
        go_wp2_with (first
          | (refine gate_dst (N := 46) rfl ?_; refine wpList_append_marked _ rfl _ _ 22 5 rfl ii Try.underlying22 hii hiz hisz hiby wr.heap.size (kn i).size (grownCap wr (kn i).size 0 5) (bytesRow (kn i) (grownCap wr (kn i).size 0 5)) (grownCap wr (kn i).size 0 5, grownCap wr (kn i).size 0 5 + 1) (heap_alloc_new wr _) (Nat.le_of_eq m1) m1 (bytesOf (kn i)) (bytesOf_length _).symm m2 m3 A1 c1 l1 ?hy ?hsm rfl rfl ?_; (case hy => exact Kd.C_below (Kd.C_below HR.out (z2.out.trans (hz.out.mono z2.out.size))) (below_drew1 ((Below.refl _ wr).alloc (Nat.le_refl _) _))); (case hsm => have hh := hsz.out i hlt; omega); intro g' c' w5 hc5 hC5 hg5))
        have hnx := (kn_next i hlt).1
        have hq15 := (kn_next i hlt).2
        have nx := escseq_Next.calls _ c' (bytesOf (kn i) ++ l1) (kq i) 0 ((kn i).size : Int) 0 w5 hC5 hc5 (congrArg some (known_app _ l1 _ _ hnx))
        rw [List.length_append] at nx
        refine nx.mono ?_
        rintro e w6 ⟨rfl, b6⟩
        have z5 := Aside0.mk (show Below w2.heap.size w2 w5 from (below_drew1 (hz.out.alloc hz.out.size _)).grown hg5 (by have := hz.out.size; simp; omega) (fun k hk => by cases hk; exact hz.out.size))
        have z6 := Aside0.mk (show Below w2.heap.size w2 w6 from z5.out.trans (b6.mono z5.out.size))
        have hcell6 := fun (o : Obj) => Lib.cell?_alloc_marked (W := w6) o ((z6.out.cell (World.block_lt_of_cell? w2 _ (C1.out i hlt))).trans (C1.out i hlt))
        clear nx hnx b6 hC5 hg5 hc5 m1 m2 m3 hcell0 hcell1
        have hwi : wrap64 ((i : Int) + 1) = ((i + 1 : Nat) : Int) := by unfold wrap64; omega
        go_wp2_with (fail)
        have hs6 := (kn_size i hlt)
        have zi := Aside0.mk (show Below w2.heap.size w2 (w6.alloc (.cells #[.int .i64 (kq i), .int .i64 0] 25)) from z6.out.alloc z6.out.size _)
        clear hcell6 hq15 z5 hz
        go_loopw [10] (fun v10 wr => ∃ j : Nat, v10 = .int .i64 j ∧ Aside0 (1 ≤ j ∧ j ≤ (kn i).size) ∧ Aside0 (Below w2.heap.size w2 wr)) (fun v10 _ => match v10 with | .int _ j => (10 - j).toNat | _ => 0)
        case atStart => exact ⟨1, rfl, ⟨by omega⟩, zi⟩
        case round =>
          obtain ⟨j, rfl, hj, hzj⟩ := hrel
          by_cases hjs : j = (kn i).size
          · have hd2 : decide ((j : Int) < ((kn i).size : Int)) = false := decide_eq_false (by omega)
            go_wp2_with (fail)
            go_roundw
            case rel => exact ⟨i + 1, rfl, ⟨by omega⟩, hzj⟩
            case measure => simp; omega
          · have hj1 : j < (kn i).size := by have := hj.out.2; omega
            have hd2 : decide ((j : Int) < ((kn i).size : Int)) = true := decide_eq_true (by omega)
            have hwj : wrap64 ((j : Int) + 1) = ((j + 1 : Nat) : Int) := by unfold wrap64; omega
            go_wp2_with (fail)
            obtain ⟨n1, n2, n3⟩ := marked_row wr ((kn i).extract 0 j) 5
            have hsx : ((kn i).extract 0 j).size = min j (kn i).size := by simp
            have hC := reads_row (wr.alloc (.cells (bytesRow ((kn i).extract 0 j) (grownCap wr ((kn i).extract 0 j).size 0 5)) 5 ((bytesRow ((kn i).extract 0 j) (grownCap wr ((kn i).extract 0 j).size 0 5)).size, (bytesRow ((kn i).extract 0 j) (grownCap wr ((kn i).extract 0 j).size 0 5)).size + 1))).drew wr.heap.size _ 5 _ (bytesOf ((kn i).extract 0 j)) (heap_alloc_new wr _) n3 (by rw [bytesOf_length, hsx]; omega)
            have nx := escseq_Begins.calls _ (grownCap wr ((kn i).extract 0 j).size 0 5) (bytesOf ((kn i).extract 0 j)) true _ hC n2 (kn_begins i hlt j (by omega) ⟨hj.out.1, hj1⟩)
            rw [bytesOf_length, hsx] at nx
            refine nx.mono ?_
            rintro e w8 ⟨rfl, b8⟩
            have z8 := Aside0.mk (show Below w2.heap.size w2 w8 from (below_drew1 (hzj.out.alloc hzj.out.size _)).trans (b8.mono (by have := hzj.out.size; simp; omega)))
            clear nx hC n1 n2 n3 b8
            go_wp2_with (fail)
            go_roundw
            case rel => exact ⟨j + 1, rfl, ⟨by omega, by omega⟩, z8⟩
            case measure => simp; omega

theorem whispererlaw09_EscseqKnown.walk (a0 : Option Addr) (len0 cap0 : Nat) (z0 : List Int) (w : World) (w0 : (a0 = none ∧ len0 = 0 ∧ cap0 = 0 ∧ z0 = []) ∨ ∃ x, a0 = some x ∧ len0 ≤ cap0 ∧ cap0 ≤ maxLen ∧ z0.length = cap0 ∧ (∀ i, i < z0.length → w.cell? (x.add i) = some (.int .u8 (z0.getD i 0))) ∧ ∀ n ∈ z0, (Lit.int .u8 n).wf = true) (y0 : len0 * 1 ≤ 140737488351232) :
    Calls Try.prog 8 #[.slice a0 len0 cap0] w fun e w' => e = .returned (.bool true) ∧ Below w.heap.size w w' := by
  obtain ⟨l0, rfl, hr0, hm0, hw0, hc0⟩ := ReadsInt.ofRowC w0
  exact known_law _ _ l0 w (Kd.C_of_reads (d := (0 : Int)) (h1 := fun _ => rfl) hr0) hc0

end Go.Proofs.Ytjlfpkgnkgbhiaa.Hand
