/- ScreenSigns: the bell, pastes, a line's end. -/
import Derived.Test.YtmdeehblmkpddaaDoorHandTabOf14
import Derived.LoopTactic
namespace Go.Proofs.YtmdeehblmkpddaaDoor.Hand
open Go.RowKit Go.Proofs.YtmdeehblmkpddaaDoorW.PrintWords Go.Proofs.YtmdeehblmkpddaaDoorW.PrintLast
set_option linter.unusedVariables false
set_option linter.unusedSimpArgs false
def sg (b r : Nat) (p : Bool) : SM := ⟨List.replicate (r + 1) [], r, 0, [], b, p, 0⟩
theorem sg_bell (b r : Nat) (p : Bool) : (sg b r p).feed [7] = sg (b + 1) r p := rfl
theorem sg_start (b r : Nat) (p : Bool) : (sg b r p).feed [27, 91, 63, 50, 48, 48, 52, 104] = sg b r true := rfl
theorem sg_stop (b r : Nat) (p : Bool) : (sg b r p).feed [27, 91, 63, 50, 48, 48, 52, 108] = sg b r false := rfl
theorem sg_close (b r : Nat) (p : Bool) : (sg b r p).feed [13, 10] = sg b (r + 1) p := by
  rw [show [(13 : Int), 10] = [13] ++ [10] from rfl, ← feed_app]
  rw [show (sg b r p).feed [13] = sg b r p from rfl]
  have h : (sg b r p).feed [10] = (sg b r p).line := rfl
  rw [h]
  unfold SM.line
  rw [show (sg b r p).rows = List.replicate (r + 1) [] from rfl, List.length_replicate, show (sg b r p).row = r from rfl, if_pos rfl]
  unfold sg
  rw [List.replicate_succ' (n := r + 1)]
theorem sg_fresh : SM.fresh = sg 0 0 false := rfl
section
set_option maxRecDepth 100000
theorem bell_ok (w : World) : Calls Tryd.prog 26 #[] w fun e w' => ∃ b, e = .returned (.slice (some ⟨b, 0, none⟩) 1 1) ∧ Kd.C (Kd.int .u8) w' (some ⟨b, 0, none⟩) 1 [7] ∧ Below w.heap.size w w' := by
  have kc := fun (w : World) (C : Array Value) (n c : Nat) => Lib.run_convert_bytes_const (P := Tryd.prog) w 22 5 C n c Tryd.underlying22 Tryd.underlying5
  go_enter Tryd.func26, Tryd.ntmps26
  go_wp2_with (fail)
  go_ret
  exact ⟨_, rfl, lit_reads w [7] 5 (1, 2) (by decide), (Below.refl _ w).alloc (Nat.le_refl _) _⟩
theorem start_ok (w : World) : Calls Tryd.prog 27 #[] w fun e w' => ∃ b, e = .returned (.slice (some ⟨b, 0, none⟩) 8 8) ∧ Kd.C (Kd.int .u8) w' (some ⟨b, 0, none⟩) 8 [27, 91, 63, 50, 48, 48, 52, 104] ∧ Below w.heap.size w w' := by
  have kc := fun (w : World) (C : Array Value) (n c : Nat) => Lib.run_convert_bytes_const (P := Tryd.prog) w 22 5 C n c Tryd.underlying22 Tryd.underlying5
  go_enter Tryd.func27, Tryd.ntmps27
  go_wp2_with (fail)
  go_ret
  exact ⟨_, rfl, lit_reads w [27, 91, 63, 50, 48, 48, 52, 104] 5 (8, 9) (by decide), (Below.refl _ w).alloc (Nat.le_refl _) _⟩
theorem stop_ok (w : World) : Calls Tryd.prog 28 #[] w fun e w' => ∃ b, e = .returned (.slice (some ⟨b, 0, none⟩) 8 8) ∧ Kd.C (Kd.int .u8) w' (some ⟨b, 0, none⟩) 8 [27, 91, 63, 50, 48, 48, 52, 108] ∧ Below w.heap.size w w' := by
  have kc := fun (w : World) (C : Array Value) (n c : Nat) => Lib.run_convert_bytes_const (P := Tryd.prog) w 22 5 C n c Tryd.underlying22 Tryd.underlying5
  go_enter Tryd.func28, Tryd.ntmps28
  go_wp2_with (fail)
  go_ret
  exact ⟨_, rfl, lit_reads w [27, 91, 63, 50, 48, 48, 52, 108] 5 (8, 9) (by decide), (Below.refl _ w).alloc (Nat.le_refl _) _⟩
theorem close_ok (w : World) : Calls Tryd.prog 29 #[] w fun e w' => ∃ b, e = .returned (.slice (some ⟨b, 0, none⟩) 2 2) ∧ Kd.C (Kd.int .u8) w' (some ⟨b, 0, none⟩) 2 [13, 10] ∧ Below w.heap.size w w' := by
  have kc := fun (w : World) (C : Array Value) (n c : Nat) => Lib.run_convert_bytes_const (P := Tryd.prog) w 22 5 C n c Tryd.underlying22 Tryd.underlying5
  go_enter Tryd.func29, Tryd.ntmps29
  go_wp2_with (fail)
  go_ret
  exact ⟨_, rfl, lit_reads w [13, 10] 5 (2, 3) (by decide), (Below.refl _ w).alloc (Nat.le_refl _) _⟩
end
def SgOn (w wr : World) (g b r : Nat) (p : Bool) (n : Nat) : Prop := ∃ F, On w wr g (sg b r p) n F
theorem SgOn.below {w wr W : World} {g b r : Nat} {p : Bool} {n : Nat} (h : SgOn w wr g b r p n) (hb : Below wr.heap.size wr W) : SgOn w W g b r p n := by
  obtain ⟨F, h⟩ := h
  exact ⟨F, h.below hb⟩
theorem sgRows_ok {w wr : World} {g b r : Nat} {p : Bool} {n : Nat} (h : SgOn w wr g b r p n) : Calls Tryd.prog 20 #[.pointer (some ⟨g, 0, none⟩)] wr fun e w' => e = .returned (.int .i64 ((r : Int) + 1)) ∧ Below wr.heap.size wr w' := by
  obtain ⟨F, h⟩ := h
  have := rows_ok wr g _ F h.x
  rw [show (sg b r p).rows = List.replicate (r + 1) [] from rfl, List.length_replicate] at this
  exact this
theorem sgPlace_ok {w wr : World} {g b r : Nat} {p : Bool} {n : Nat} (h : SgOn w wr g b r p n) : Calls Tryd.prog 13 #[.pointer (some ⟨g, 0, none⟩)] wr fun e w' => e = .returned (.tuple #[.int .i64 r, .int .i64 0]) ∧ Below wr.heap.size wr w' := by
  obtain ⟨F, h⟩ := h
  exact place_ok wr g _ F h.x
theorem sgBells_ok {w wr : World} {g b r : Nat} {p : Bool} {n : Nat} (h : SgOn w wr g b r p n) : Calls Tryd.prog 24 #[.pointer (some ⟨g, 0, none⟩)] wr fun e w' => e = .returned (.int .i64 b) ∧ Below wr.heap.size wr w' := by
  obtain ⟨F, h⟩ := h
  exact bells_ok wr g _ F h.x
theorem sgPastes_ok {w wr : World} {g b r : Nat} {p : Bool} {n : Nat} (h : SgOn w wr g b r p n) : Calls Tryd.prog 25 #[.pointer (some ⟨g, 0, none⟩)] wr fun e w' => e = .returned (.bool p) ∧ Below wr.heap.size wr w' := by
  obtain ⟨F, h⟩ := h
  exact pastes_ok wr g _ F h.x
theorem sgOdd_ok {w wr : World} {g b r : Nat} {p : Bool} {n : Nat} (h : SgOn w wr g b r p n) : Calls Tryd.prog 15 #[.pointer (some ⟨g, 0, none⟩)] wr fun e w' => e = .returned (.int .i64 0) ∧ Below wr.heap.size wr w' := by
  obtain ⟨F, h⟩ := h
  exact odd_ok wr g _ F h.x
theorem sgFeed_ok {w wr : World} {g b r b' r' : Nat} {p p' : Bool} {n : Nat} (h : SgOn w wr g b r p n) (HT : TabS w) (A : Option Addr) (c : Nat) (l : List Int) (hl : (sg b r p).feed l = sg b' r' p') (hr : Kd.C (Kd.int .u8) wr A l.length l) (hc : l.length ≤ c) (hb : ∀ x ∈ l, 0 ≤ x ∧ x ≤ 255) (hn : n + l.length ≤ 20000) (hl8 : l.length ≤ 8) :
    Calls Tryd.prog 12 #[.pointer (some ⟨g, 0, none⟩), .slice A l.length c] wr fun e w' => e = .returned (.int .i64 0) ∧ SgOn w w' g b' r' p' (n + 8) := by
  obtain ⟨F, h⟩ := h
  refine (feed_on h HT.n HT.u A c l hr hc hb hn).mono ?_
  rintro e w' ⟨rfl, hs, hm⟩
  rw [hl] at hs
  obtain ⟨m, hf, hm1, hb1⟩ := hs.f
  exact ⟨rfl, _, hs.x, ⟨m, hf, by omega, hb1⟩, hs.G⟩
set_option maxHeartbeats 4000000 in
set_option maxRecDepth 100000 in
theorem ScreenSigns_walk (a0 : Option Addr) (len0 cap0 : Nat) (z0 : List Int) (w : World) (HT : TabS w)
    (w0 : (a0 = none ∧ len0 = 0 ∧ cap0 = 0 ∧ z0 = []) ∨ ∃ x, a0 = some x ∧ len0 ≤ cap0 ∧ cap0 ≤ maxLen ∧ z0.length = cap0 ∧ (∀ i, i < z0.length → w.cell? (x.add i) = some (.int .u8 (z0.getD i 0))) ∧ ∀ n ∈ z0, (Lit.int .u8 n).wf = true)
    (y0 : len0 * 1 ≤ 140737488351232) :
    Calls Tryd.prog 8 #[.slice a0 len0 cap0] w fun e w' => e = .returned (.bool true) ∧ Below w.heap.size w w' := by
  obtain ⟨l, rfl, hC, hcap, hcm, hwf, hnn⟩ := row_in w0
  have hb : ∀ x ∈ l, 0 ≤ x ∧ x ≤ 255 := fun x hx => wf_u8' (hwf x hx)
  have hbA := Aside0.mk hb
  have hCA := Aside0.mk hC
  clear w0 z0 hb hC hwf hnn
  go_enter Tryd.func8, Tryd.ntmps8
  go_wp2_with (fail)
  refine (new_ok _).mono ?_
  rintro e w1 ⟨g, rfl, hs1, hb1⟩
  have S1 := Aside0.mk (show SgOn w w1 g 0 0 false 1 from ⟨_, On.new (Below.refl _ w) hs1 hb1⟩)
  have B1 := Aside0.mk hb1
  clear hb1 hs1
  go_wp2_with (fail)
  have ht1 := HT.below B1.out
  refine (alive_ok _ ht1.n ht1.u).mono ?_
  rintro e w3 ⟨rfl, hb3⟩
  have S3 := Aside0.mk (S1.out.below hb3)
  have B3 := Aside0.mk (B1.out.trans (hb3.mono B1.out.size))
  clear hb3 ht1 S1 B1
  by_cases hbig : 300 < l.length
  · have h1 : (300 : Int) < (l.length : Int) := by omega
    have ht3 := HT.below B3.out
    go_wp2_with (fail)
    refine (alive_ok _ ht3.n ht3.u).mono ?_
    rintro e w4 ⟨rfl, hb4⟩
    have hfin := Aside0.mk (B3.out.trans (hb4.mono B3.out.size))
    clear hb4 ht3
    go_wp2_with (fail)
    go_ret
    exact ⟨rfl, hfin.out⟩
  · have h1 : (l.length : Int) ≤ 300 := by omega
    clear B3
    go_wp2_with (fail)
    go_loopw [4, 5, 6, 26] (fun v4 v5 v6 v26 wr => ∃ (b r i : Nat) (p : Bool), v4 = .int .i64 b ∧ v5 = .int .i64 ((r : Int) + 1) ∧ v6 = .bool p ∧ v26 = .int .i64 i ∧ Aside0 (i ≤ l.length ∧ b ≤ i ∧ r ≤ i) ∧ Aside0 (SgOn w wr g b r p (1 + 8 * i))) (fun _ _ _ v26 _ => l.length - (intOf v26).toNat)
    case atStart => exact ⟨0, 0, 0, false, rfl, rfl, rfl, rfl, ⟨Nat.zero_le _, Nat.le_refl _, Nat.le_refl _⟩, S3⟩
    case round =>
      obtain ⟨b, r, i, p, rfl, rfl, rfl, rfl, hi, hS⟩ := hrel
      obtain ⟨hi0, hbi, hri⟩ := hi.out
      have hGb : Below w.heap.size w wr := by obtain ⟨F, h⟩ := hS.out; exact h.G.b
      by_cases hlt : i < l.length
      · obtain ⟨ad, rfl, hcell⟩ := (Kd.reads_of_C (d := (0 : Int)) (C_later hCA.out hGb)).2.2 (by omega)
        have hc := hcell i hlt
        have hx := hbA.out (l.getD i 0) (by rw [List.getD_eq_getElem?_getD, List.getElem?_eq_getElem hlt]; exact List.getElem_mem hlt)
        have hiI : (i : Int) < (l.length : Int) := by omega
        clear hcell hGb
        generalize l.getD i 0 = x at *
        rcases (show x % 4 = 0 ∨ x % 4 = 1 ∨ x % 4 = 2 ∨ x % 4 = 3 by omega) with hm | hm | hm | hm
        · go_wp2_with (fail)
          refine (bell_ok _).mono ?_
          rintro e w4 ⟨bb, rfl, hk, hb4⟩
          have S4 := Aside0.mk (hS.out.below hb4)
          clear hb4
          go_wp2_with (fail)
          refine (sgFeed_ok S4.out HT _ _ [7] (sg_bell b r p) hk (by decide) (by decide) (by simp only [List.length_cons, List.length_nil]; omega) (by decide)).mono ?_
          rintro e w5 ⟨rfl, S5⟩
          have S5 := Aside0.mk S5
          clear S4 hk hS
          go_wp2_with (fail)
          refine (sgPlace_ok S5.out).mono ?_
          rintro e w6 ⟨rfl, hb6⟩
          have S6 := Aside0.mk (S5.out.below hb6)
          clear S5 hb6
          go_wp2_with (fail)
          refine (sgBells_ok S6.out).mono ?_
          rintro e w7 ⟨rfl, hb7⟩
          have S7 := Aside0.mk (S6.out.below hb7)
          clear S6 hb7
          go_wp2_with (fail)
          refine (sgPastes_ok S7.out).mono ?_
          rintro e w8 ⟨rfl, hb8⟩
          have S8 := Aside0.mk (S7.out.below hb8)
          clear S7 hb8
          go_wp2_with (fail)
          refine (sgRows_ok S8.out).mono ?_
          rintro e w9 ⟨rfl, hb9⟩
          have S9 := Aside0.mk (S8.out.below hb9)
          clear S8 hb9
          go_wp2_with (fail)
          refine (sgOdd_ok S9.out).mono ?_
          rintro e w10 ⟨rfl, hb10⟩
          have S10 := Aside0.mk (S9.out.below hb10)
          clear S9 hb10
          go_wp2_with (fail)
          refine ⟨⟨b + 1, r, i + 1, p, rfl, rfl, rfl, rfl, ⟨by omega, by omega, by omega⟩, ⟨S10.out⟩⟩, ?_⟩
          simp [intOf]
          omega
        · go_wp2_with (fail)
          refine (start_ok _).mono ?_
          rintro e w4 ⟨bb, rfl, hk, hb4⟩
          have S4 := Aside0.mk (hS.out.below hb4)
          clear hb4
          go_wp2_with (fail)
          refine (sgFeed_ok S4.out HT _ _ [27, 91, 63, 50, 48, 48, 52, 104] (sg_start b r p) hk (by decide) (by decide) (by simp only [List.length_cons, List.length_nil]; omega) (by decide)).mono ?_
          rintro e w5 ⟨rfl, S5⟩
          have S5 := Aside0.mk S5
          clear S4 hk hS
          go_wp2_with (fail)
          refine (sgPlace_ok S5.out).mono ?_
          rintro e w6 ⟨rfl, hb6⟩
          have S6 := Aside0.mk (S5.out.below hb6)
          clear S5 hb6
          go_wp2_with (fail)
          refine (sgBells_ok S6.out).mono ?_
          rintro e w7 ⟨rfl, hb7⟩
          have S7 := Aside0.mk (S6.out.below hb7)
          clear S6 hb7
          go_wp2_with (fail)
          refine (sgPastes_ok S7.out).mono ?_
          rintro e w8 ⟨rfl, hb8⟩
          have S8 := Aside0.mk (S7.out.below hb8)
          clear S7 hb8
          go_wp2_with (fail)
          refine (sgRows_ok S8.out).mono ?_
          rintro e w9 ⟨rfl, hb9⟩
          have S9 := Aside0.mk (S8.out.below hb9)
          clear S8 hb9
          go_wp2_with (fail)
          refine (sgOdd_ok S9.out).mono ?_
          rintro e w10 ⟨rfl, hb10⟩
          have S10 := Aside0.mk (S9.out.below hb10)
          clear S9 hb10
          go_wp2_with (fail)
          refine ⟨⟨b, r, i + 1, true, rfl, rfl, rfl, rfl, ⟨by omega, by omega, by omega⟩, ⟨S10.out⟩⟩, ?_⟩
          simp [intOf]
          omega
        · go_wp2_with (fail)
          refine (stop_ok _).mono ?_
          rintro e w4 ⟨bb, rfl, hk, hb4⟩
          have S4 := Aside0.mk (hS.out.below hb4)
          clear hb4
          go_wp2_with (fail)
          refine (sgFeed_ok S4.out HT _ _ [27, 91, 63, 50, 48, 48, 52, 108] (sg_stop b r p) hk (by decide) (by decide) (by simp only [List.length_cons, List.length_nil]; omega) (by decide)).mono ?_
          rintro e w5 ⟨rfl, S5⟩
          have S5 := Aside0.mk S5
          clear S4 hk hS
          go_wp2_with (fail)
          refine (sgPlace_ok S5.out).mono ?_
          rintro e w6 ⟨rfl, hb6⟩
          have S6 := Aside0.mk (S5.out.below hb6)
          clear S5 hb6
          go_wp2_with (fail)
          refine (sgBells_ok S6.out).mono ?_
          rintro e w7 ⟨rfl, hb7⟩
          have S7 := Aside0.mk (S6.out.below hb7)
          clear S6 hb7
          go_wp2_with (fail)
          refine (sgPastes_ok S7.out).mono ?_
          rintro e w8 ⟨rfl, hb8⟩
          have S8 := Aside0.mk (S7.out.below hb8)
          clear S7 hb8
          go_wp2_with (fail)
          refine (sgRows_ok S8.out).mono ?_
          rintro e w9 ⟨rfl, hb9⟩
          have S9 := Aside0.mk (S8.out.below hb9)
          clear S8 hb9
          go_wp2_with (fail)
          refine (sgOdd_ok S9.out).mono ?_
          rintro e w10 ⟨rfl, hb10⟩
          have S10 := Aside0.mk (S9.out.below hb10)
          clear S9 hb10
          go_wp2_with (fail)
          refine ⟨⟨b, r, i + 1, false, rfl, rfl, rfl, rfl, ⟨by omega, by omega, by omega⟩, ⟨S10.out⟩⟩, ?_⟩
          simp [intOf]
          omega
        · go_wp2_with (fail)
          refine (close_ok _).mono ?_
          rintro e w4 ⟨bb, rfl, hk, hb4⟩
          have S4 := Aside0.mk (hS.out.below hb4)
          clear hb4
          go_wp2_with (fail)
          refine (sgFeed_ok S4.out HT _ _ [13, 10] (sg_close b r p) hk (by decide) (by decide) (by simp only [List.length_cons, List.length_nil]; omega) (by decide)).mono ?_
          rintro e w5 ⟨rfl, S5⟩
          have S5 := Aside0.mk S5
          clear S4 hk hS
          go_wp2_with (fail)
          refine (sgPlace_ok S5.out).mono ?_
          rintro e w6 ⟨rfl, hb6⟩
          have S6 := Aside0.mk (S5.out.below hb6)
          clear S5 hb6
          go_wp2_with (fail)
          refine (sgBells_ok S6.out).mono ?_
          rintro e w7 ⟨rfl, hb7⟩
          have S7 := Aside0.mk (S6.out.below hb7)
          clear S6 hb7
          go_wp2_with (fail)
          refine (sgPastes_ok S7.out).mono ?_
          rintro e w8 ⟨rfl, hb8⟩
          have S8 := Aside0.mk (S7.out.below hb8)
          clear S7 hb8
          go_wp2_with (fail)
          refine (sgRows_ok S8.out).mono ?_
          rintro e w9 ⟨rfl, hb9⟩
          have S9 := Aside0.mk (S8.out.below hb9)
          clear S8 hb9
          go_wp2_with (fail)
          refine (sgOdd_ok S9.out).mono ?_
          rintro e w10 ⟨rfl, hb10⟩
          have S10 := Aside0.mk (S9.out.below hb10)
          clear S9 hb10
          go_wp2_with (fail)
          refine ⟨⟨b, r + 1, i + 1, p, rfl, rfl, rfl, rfl, ⟨by omega, by omega, by omega⟩, ⟨S10.out⟩⟩, ?_⟩
          simp [intOf]
          omega
      · have hiI : (l.length : Int) ≤ (i : Int) := by omega
        have hfin := Aside0.mk hGb
        clear hGb
        go_wp2_with (fail)
        go_ret
        exact ⟨rfl, hfin.out⟩
end Go.Proofs.YtmdeehblmkpddaaDoor.Hand
