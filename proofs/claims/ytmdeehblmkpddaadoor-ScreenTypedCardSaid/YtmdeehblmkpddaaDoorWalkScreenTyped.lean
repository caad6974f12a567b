/- ScreenTyped: characters stand in a row as they were written. -/
import Derived.Test.YtmdeehblmkpddaaDoorPlainText14
import Derived.LoopTactic
namespace Go.Proofs.YtmdeehblmkpddaaDoor.Hand
open Go.RowKit Go.Proofs.YtmdeehblmkpddaaDoorW.PrintWords Go.Proofs.YtmdeehblmkpddaaDoorW.PrintLast
set_option linter.unusedVariables false
set_option linter.unusedSimpArgs false
/-- Those that may be shown. -/
def shown (l : List Int) : List Int := l.filter prn
def TyOn (w wr : World) (g : Nat) (x y : List Int) (m : Nat) : Prop := ∃ F, On w wr g (ty x y) m F
theorem putS_calls (c : Int) (w : World) : Calls Tryd.prog 17 #[.int .i64 c] w fun e w' => ∃ A cap, e = .returned (.tuple #[.slice A (if isChar c = true then enc c else []).length cap, .int .i64 (if isChar c = true then 0 else 3)]) ∧ Kd.C (Kd.int .u8) w' A (if isChar c = true then enc c else []).length (if isChar c = true then enc c else []) ∧ (if isChar c = true then enc c else []).length ≤ cap ∧ Below w.heap.size w w' := by
  refine (PPrintable.utf_Put.calls 4 c (if isChar c = true then enc c else []) (if isChar c = true then 0 else 3) w (by rw [put_eq c 3]; by_cases h : isChar c = true <;> simp [h])).mono ?_
  rintro e w' ⟨v, rfl, hR, hb⟩
  obtain ⟨A, cap, rfl, hc, hC⟩ := Kd.R_reads hR
  exact ⟨A, cap, rfl, hC, hc, hb⟩
theorem info_int : (Tryd.prog.info? 3).map (fun i => (i.zero, i.size, i.bytes)) = some (some (.int .i64 0), 1, 8) := by kernel_rfl
/-- While characters are laid: the screen, the cell that holds it, what is handed back. -/
def LayRel (w0 w : World) (g b : Nat) (F0 : Nat → Prop) (x y : List Int) (wr : World) (v : Value) (o : List Int) (m : Nat) : Prop :=
  ∃ F, On w0 wr g (ty x (y ++ o)) m F ∧ Mod F0 w wr ∧ (∀ k, F k → F0 k ∨ w.heap.size ≤ k) ∧ ¬ F b ∧ wr.cell? ⟨b, 0, none⟩ = some (.pointer (some ⟨g, 0, none⟩)) ∧ IRow wr v (o.map (.int .i64)) ∧ ∀ k, v.ownBlock = some k → ¬ F k ∧ w.heap.size ≤ k
theorem LayRel.below {w0 w : World} {g b : Nat} {F0 : Nat → Prop} {x y : List Int} {wr W : World} {v : Value} {o : List Int} {m : Nat} (h : LayRel w0 w g b F0 x y wr v o m) (hb : Below wr.heap.size wr W) : LayRel w0 w g b F0 x y W v o m := by
  obtain ⟨F, h1, h2, h3, h4, h5, h6, h7⟩ := h
  exact ⟨F, h1.below hb, h2.trans (Mod.ofBelow hb) (fun _ _ h => h), h3, h4, cell_stays h5 hb, h6.below hb, h7⟩
theorem LayRel.up {w0 w : World} {g b : Nat} {F0 : Nat → Prop} {x y : List Int} {wr : World} {v : Value} {o : List Int} {m m' : Nat} (h : LayRel w0 w g b F0 x y wr v o m) (hm : m ≤ m') : LayRel w0 w g b F0 x y wr v o m' := by
  obtain ⟨F, h1, h2⟩ := h
  obtain ⟨q, hq1, hq2, hq3⟩ := h1.f
  exact ⟨F, ⟨h1.x, ⟨q, hq1, by omega, hq3⟩, h1.G⟩, h2⟩
theorem LayRel.cell {w0 w : World} {g b : Nat} {F0 : Nat → Prop} {x y : List Int} {wr : World} {v : Value} {o : List Int} {m : Nat} (h : LayRel w0 w g b F0 x y wr v o m) : wr.cell? ⟨b, 0, none⟩ = some (.pointer (some ⟨g, 0, none⟩)) := by
  obtain ⟨F, h1, h2, h3, h4, h5, h6, h7⟩ := h
  exact h5
theorem LayRel.b {w0 w : World} {g b : Nat} {F0 : Nat → Prop} {x y : List Int} {wr : World} {v : Value} {o : List Int} {m : Nat} (h : LayRel w0 w g b F0 x y wr v o m) : Below w0.heap.size w0 wr := by
  obtain ⟨F, h1, h2, h3, h4, h5, h6, h7⟩ := h
  exact h1.G.b
theorem LayRel.row {w0 w : World} {g b : Nat} {F0 : Nat → Prop} {x y : List Int} {wr : World} {v : Value} {o : List Int} {m : Nat} (h : LayRel w0 w g b F0 x y wr v o m) : IRow wr v (o.map (.int .i64)) := by
  obtain ⟨F, h1, h2, h3, h4, h5, h6, h7⟩ := h
  exact h6
/-- Fed with a character, the row not yet. -/
def LayFed (w0 w : World) (g b : Nat) (F0 : Nat → Prop) (x y : List Int) (wr : World) (v : Value) (o : List Int) (c : Int) (m : Nat) : Prop :=
  ∃ F, On w0 wr g (ty x (y ++ (o ++ [c]))) m F ∧ Mod F0 w wr ∧ (∀ k, F k → F0 k ∨ w.heap.size ≤ k) ∧ ¬ F b ∧ wr.cell? ⟨b, 0, none⟩ = some (.pointer (some ⟨g, 0, none⟩)) ∧ IRow wr v (o.map (.int .i64)) ∧ ∀ k, v.ownBlock = some k → ¬ F k ∧ w.heap.size ≤ k
theorem LayFed.row {w0 w : World} {g b : Nat} {F0 : Nat → Prop} {x y : List Int} {wr : World} {v : Value} {o : List Int} {c : Int} {m : Nat} (h : LayFed w0 w g b F0 x y wr v o c m) : IRow wr v (o.map (.int .i64)) := by
  obtain ⟨F, h1, h2, h3, h4, h5, h6, h7⟩ := h
  exact h6
theorem layFeed {w0 w : World} {g b : Nat} {F0 : Nat → Prop} {x y : List Int} {wr : World} {v : Value} {o : List Int} {m : Nat} (h : LayRel w0 w g b F0 x y wr v o m) (HT : TabS w0) (hF0 : ∀ k, F0 k → k < w.heap.size) (c : Int) (hp : prn c = true) (A : Option Addr) (cap : Nat) (hr : Kd.C (Kd.int .u8) wr A (enc c).length (enc c)) (hc : (enc c).length ≤ cap) (hn : m + 4 ≤ 20000) :
    Calls Tryd.prog 12 #[.pointer (some ⟨g, 0, none⟩), .slice A (enc c).length cap] wr fun e w' => e = .returned (.int .i64 0) ∧ LayFed w0 w g b F0 x y w' v o c (m + 4) := by
  obtain ⟨F, h1, h2, h3, h4, h5, h6, h7⟩ := h
  have hlen := encS_len c
  have hbyte : ∀ z ∈ enc c, 0 ≤ z ∧ z ≤ 255 := by
    have := (prn_iff c).1 hp
    intro z hz
    unfold enc at hz
    split at hz
    · simp at hz; omega
    · split at hz
      · simp at hz; omega
      · split at hz
        · simp at hz; omega
        · simp at hz; omega
  refine (feed_on h1 HT.n HT.u A cap (enc c) hr hc hbyte (by omega)).mono ?_
  rintro e w' ⟨rfl, hs, hm⟩
  rw [ty_show x (y ++ o) c hp, List.append_assoc] at hs
  have hbl : b < wr.heap.size := World.block_lt_of_cell? _ _ h5
  obtain ⟨q, hq1, hq2, hq3⟩ := hs.f
  refine ⟨rfl, _, ⟨hs.x, ⟨q, hq1, by omega, hq3⟩, hs.G⟩, h2.trans hm (fun k hk hf => (h3 k hf).elim id (fun h => by omega)), fun k hk => ?_, fun hk => ?_, ?_, h6.kept (fun k e => hm.block k (h6.lt k e) (h7 k e).1) hm.size, fun k e => ⟨fun hk => ?_, (h7 k e).2⟩⟩
  · rcases hk with hk | hk
    · exact h3 k hk
    · exact .inr (Nat.le_trans h2.size hk.1)
  · rcases hk with hk | hk
    · exact h4 hk
    · omega
  · rw [World.cell?_of_block (w := wr) (w' := w') (a := ⟨b, 0, none⟩) (hm.block b hbl h4)]
    exact h5
  · rcases hk with hk | hk
    · exact (h7 k e).1 hk
    · have := h6.lt k e; omega
theorem LayFed.append {w0 w : World} {g b : Nat} {F0 : Nat → Prop} {x y : List Int} {wr : World} {v v' : Value} {o : List Int} {c : Int} {m : Nat} {w1 : World} (h : LayFed w0 w g b F0 x y wr v o c m) (hbw : b < w.heap.size) (hw0 : w0.heap.size ≤ w.heap.size) (ob : Obj)
    (hown : IRow w1 v' ((o ++ [c]).map (.int .i64))) (hg : (wr.alloc ob).grownBy w1 v.ownBlock) (hbl : v'.ownBlock = v.ownBlock ∨ v'.ownBlock = some (wr.alloc ob).heap.size) : LayRel w0 w g b F0 x y w1 v' (o ++ [c]) m := by
  obtain ⟨F, h1, h2, h3, h4, h5, h6, h7⟩ := h
  have hb2 : Below wr.heap.size wr (wr.alloc ob) := (Below.refl _ wr).alloc (Nat.le_refl _) ob
  have o1 := h1.below hb2
  have hm : Mod (fun k => v.ownBlock = some k) (wr.alloc ob) w1 := Mod.ofGrown hg (fun k e => e)
  have hG : Gr w0 (wr.alloc ob) (fun k => v.ownBlock = some k) := ⟨o1.G.b, fun k e => Nat.le_trans hw0 (h7 k e).2⟩
  have hcell := cell_stays h5 hb2
  have hbl2 : b < (wr.alloc ob).heap.size := World.block_lt_of_cell? _ _ hcell
  refine ⟨F, o1.apart hm (fun k hk e => (h7 k e).1 hk) hG, ?_, h3, h4, ?_, hown, fun k e => ?_⟩
  · exact (h2.trans (Mod.ofBelow hb2) (fun _ _ h => h)).trans hm (fun k hk e => by have := (h7 k e).2; omega)
  · rw [World.cell?_of_block (w := wr.alloc ob) (w' := w1) (a := ⟨b, 0, none⟩) (hm.block b hbl2 (fun e => by have := (h7 b e).2; omega))]
    exact hcell
  · rcases hbl with e2 | e2
    · rw [e2] at e
      exact h7 k e
    · rw [e2] at e
      have e := Option.some.inj e
      refine ⟨fun hk => ?_, ?_⟩
      · have := o1.x.lt k hk; omega
      · have := h2.size; have := hb2.size; omega
theorem shown_snoc (l : List Int) (i : Nat) (h : i < l.length) : shown (l.take (i + 1)) = shown (l.take i) ++ (if prn l[i] = true then [l[i]] else []) := by
  unfold shown
  rw [List.take_succ_eq_append_getElem h, List.filter_append]
  congr 1
  by_cases hp : prn l[i] = true
  · simp [hp]
  · simp [hp]
theorem shown_len (l : List Int) : (shown l).length ≤ l.length := List.length_filter_le _ _
set_option maxHeartbeats 4000000 in
set_option maxRecDepth 100000 in
theorem lay_ok {w0 w : World} {g b : Nat} {F0 : Nat → Prop} {x y : List Int} {m : Nat} (h : On w0 w g (ty x y) m F0) (HT : TabS w0) (hb : ¬ F0 b) (hcell : w.cell? ⟨b, 0, none⟩ = some (.pointer (some ⟨g, 0, none⟩))) (A : Option Addr) (cap : Nat) (l : List Int) (hr : Kd.C (Kd.int .i64) w0 A l.length l) (hc : l.length ≤ cap) (hl : l.length ≤ 300) (hm : m ≤ 10000) :
    Calls Tryd.prog 16 #[.slice A l.length cap, .pointer (some ⟨b, 0, none⟩)] w fun e w' => ∃ v, e = .returned v ∧ LayRel w0 w g b F0 x y w' v (shown l) (m + 4 * l.length) := by
  obtain ⟨i0, hi0, hz0, hz1, hz2⟩ := info_parts info_int
  have hbw : b < w.heap.size := World.block_lt_of_cell? _ _ hcell
  have hw0 := h.G.b.size
  have hF0 := h.x.lt
  have H0 := Aside0.mk (show LayRel w0 w g b F0 x y w (.slice none 0 0) [] m from ⟨F0, by rw [List.append_nil]; exact h, Mod.refl _ _, fun k hk => .inl hk, hb, hcell, .inl ⟨rfl, rfl⟩, fun k e => by cases e⟩)
  have hrA := Aside0.mk hr
  clear h hb hcell hr
  go_enter Tryd.func16, Tryd.ntmps16
  go_wp2_with (fail)
  go_loopw [4, 11] (fun v4 v11 wr => ∃ i : Nat, v11 = .int .i64 i ∧ Aside0 (i ≤ l.length) ∧ Aside0 (LayRel w0 w g b F0 x y wr v4 (shown (l.take i)) (m + 4 * i))) (fun _ v11 _ => l.length - (intOf v11).toNat)
  case atStart => exact ⟨0, rfl, ⟨Nat.zero_le _⟩, H0⟩
  case round =>
    obtain ⟨i, rfl, hi, hL⟩ := hrel
    have hi0' := hi.out
    by_cases hlt : i < l.length
    · obtain ⟨ad, rfl, hcl⟩ := (Kd.reads_of_C (d := (0 : Int)) (C_later hrA.out hL.out.b)).2.2 (by omega)
      have hcl2 := hcl i hlt
      have hsn := Aside0.mk (shown_snoc l i hlt)
      have hgd : l.getD i 0 = l[i] := by rw [List.getD_eq_getElem?_getD, List.getElem?_eq_getElem hlt]; rfl
      rw [hgd] at hcl2
      have hiI : (i : Int) < (l.length : Int) := by omega
      clear hcl hgd
      generalize l[i] = c at *
      generalize ho : shown (l.take i) = o at *
      have hol : o.length ≤ 300 := by
        have := shown_len (l.take i)
        rw [ho, List.length_take] at this
        omega
      clear ho
      obtain ⟨A4, c4, hv4, _, _⟩ := hL.out.row.slice
      rw [List.length_map] at hv4
      subst hv4
      go_wp2_with (fail)
      refine (putS_calls c _).mono ?_
      rintro e w5 ⟨A5, c5, rfl, hC5, hc5, hb5⟩
      have hL5 := Aside0.mk (hL.out.below hb5)
      have hC5 := Aside0.mk hC5
      clear hb5 hL
      by_cases hch : isChar c = true
      · rw [if_pos hch] at hC5 hc5
        simp only [if_pos hch]
        go_wp2_with (fail)
        refine (prnS_calls c _).mono ?_
        rintro e w6 ⟨rfl, hb6⟩
        have hL6 := Aside0.mk (hL5.out.below hb6)
        have hC6 := Aside0.mk (C_later hC5.out hb6)
        clear hb6 hL5 hC5
        by_cases hp : prn c = true
        · rw [hp]
          have hcl := hL6.out.cell
          go_wp2_with (fail)
          refine (layFeed hL6.out HT hF0 c hp A5 c5 hC6.out hc5 (by omega)).mono ?_
          rintro e w7 ⟨rfl, hL7⟩
          have hL7 := Aside0.mk hL7
          clear hL6 hC6 hcl
          have hrow := Aside0.mk (hL7.out.row.below ((Below.refl _ w7).alloc (Nat.le_refl _) (.cells #[.int .i64 c] 3)))
          have hblk := Aside0.mk (heap_alloc_new w7 (.cells #[.int .i64 c] 3))
          go_wp2_with (at_builtin; refine wpList_append_irow _ rfl _ _ 33 33 rfl 3 i0 (.int .i64 0) 8 Tryd.underlying33 hi0 hz0 hz1 hz2 rfl rfl hrow.out rfl 1 [.int .i64 c] (Src.ofSlice _ Tryd.underlying33 ⟨w7.heap.size, 0, none⟩ 1 1 [.int .i64 c] rfl (fun j u hj => by
            match j, hj with
            | 0, hj => injection hj with hj; subst hj; exact (blk_cell hblk.out 0).trans rfl
            | j + 1, hj => simp at hj) (by simp [Value.oneCell'])) (by rw [List.length_map]; unfold maxLen; omega) (by rw [List.length_map]; omega) ?_; intro v' w8 hown hgr hbl; have hnew := Aside0.mk (hL7.out.append hbw hw0 (.cells #[.int .i64 c] 3) (by rw [List.map_append]; exact hown) hgr hbl); clear hown hgr hbl)
          refine ⟨⟨i + 1, rfl, ⟨by omega⟩, ⟨?_⟩⟩, ?_⟩
          · rw [hsn.out, if_pos hp]
            exact hnew.out
          · simp [intOf]
            omega
        · have hp' : prn c = false := Bool.eq_false_iff.mpr hp
          rw [hp']
          go_wp2_with (fail)
          refine ⟨⟨i + 1, rfl, ⟨by omega⟩, ⟨?_⟩⟩, ?_⟩
          · rw [hsn.out, if_neg hp, List.append_nil]
            exact hL6.out.up (by omega)
          · simp [intOf]
            omega
      · have hp : ¬ prn c = true := fun hp => hch (prnS_char hp)
        simp only [if_neg hch]
        go_wp2_with (fail)
        refine ⟨⟨i + 1, rfl, ⟨by omega⟩, ⟨?_⟩⟩, ?_⟩
        · rw [hsn.out, if_neg hp, List.append_nil]
          exact hL5.out.up (by omega)
        · simp [intOf]
          omega
    · have hiI : (l.length : Int) ≤ (i : Int) := by omega
      have hE : i = l.length := by omega
      subst hE
      rw [List.take_length] at hL
      go_wp2_with (fail)
      go_ret
      exact ⟨_, rfl, hL.out⟩

/-- The screen in its cell, and a row that was handed back (if any). -/
def TyB (w wr : World) (g b : Nat) (x y : List Int) (m : Nat) (v : Value) (o : List Int) : Prop :=
  ∃ F, On w wr g (ty x y) m F ∧ ¬ F b ∧ wr.cell? ⟨b, 0, none⟩ = some (.pointer (some ⟨g, 0, none⟩)) ∧ IRow wr v (o.map (.int .i64)) ∧ ∀ k, v.ownBlock = some k → ¬ F k
theorem TyB.below {w wr W : World} {g b : Nat} {x y : List Int} {m : Nat} {v : Value} {o : List Int} (h : TyB w wr g b x y m v o) (hb : Below wr.heap.size wr W) : TyB w W g b x y m v o := by
  obtain ⟨F, h1, h2, h3, h4, h5⟩ := h
  exact ⟨F, h1.below hb, h2, cell_stays h3 hb, h4.below hb, h5⟩
theorem TyB.b {w wr : World} {g b : Nat} {x y : List Int} {m : Nat} {v : Value} {o : List Int} (h : TyB w wr g b x y m v o) : Below w.heap.size w wr := by
  obtain ⟨F, h1, h2, h3, h4, h5⟩ := h
  exact h1.G.b
theorem TyB.cell {w wr : World} {g b : Nat} {x y : List Int} {m : Nat} {v : Value} {o : List Int} (h : TyB w wr g b x y m v o) : wr.cell? ⟨b, 0, none⟩ = some (.pointer (some ⟨g, 0, none⟩)) := by
  obtain ⟨F, h1, h2, h3, h4, h5⟩ := h
  exact h3
theorem TyB.on {w wr : World} {g b : Nat} {x y : List Int} {m : Nat} {v : Value} {o : List Int} (h : TyB w wr g b x y m v o) : ∃ F, On w wr g (ty x y) m F := by
  obtain ⟨F, h1, h2, h3, h4, h5⟩ := h
  exact ⟨F, h1⟩
theorem TyB.row {w wr : World} {g b : Nat} {x y : List Int} {m : Nat} {v : Value} {o : List Int} (h : TyB w wr g b x y m v o) : IRow wr v (o.map (.int .i64)) := by
  obtain ⟨F, h1, h2, h3, h4, h5⟩ := h
  exact h4
theorem C_of_irow64 {w : World} {A : Option Addr} {c : Nat} {l : List Int} (h : IRow w (.slice A l.length c) (l.map (.int .i64))) : Kd.C (Kd.int .i64) w A l.length l := by
  refine Kd.C_of_reads (d := (0 : Int)) ⟨rfl, ?_, fun hn => ?_⟩
  · obtain ⟨A', c', e, h1, h2⟩ := h.slice
    rw [List.length_map] at h1
    have : maxLen ≤ 9223372036854775807 := by unfold maxLen; omega
    omega
  · obtain ⟨b, off, cap, e, h1, h2, h3, h4, h5⟩ := h.form (by intro e; rw [List.map_eq_nil_iff] at e; rw [e] at hn; exact absurd hn (by decide))
    injection e with e1 e2 e3
    refine ⟨_, e1, fun j hj => ?_⟩
    rw [Addr.add_mid]
    refine h4 j _ ?_
    rw [List.getElem?_map, List.getElem?_eq_getElem hj]
    simp [List.getD_eq_getElem?_getD, List.getElem?_eq_getElem hj]
theorem tyRow_ok {w wr : World} {g b m : Nat} {x y : List Int} {v : Value} {o : List Int} (h : TyB w wr g b x y m v o) (hm : m ≤ 100000) (r : List Int) (hr : y ++ x.drop y.length = r) : Calls Tryd.prog 14 #[.pointer (some ⟨g, 0, none⟩), .int .i64 0] wr fun e w' => e = .returned (.string (runesBytes r)) ∧ Below wr.heap.size wr w' := by
  obtain ⟨F, h⟩ := h.on
  subst hr
  exact rowS_ok wr g _ F m h.x h.f.fine (by omega) 0 (Nat.zero_lt_succ _)
theorem shown_char (l : List Int) : ∀ x ∈ shown l, isChar x = true := fun x hx => prnS_char (List.mem_filter.1 hx).2
theorem ty_feed13 {w wr : World} {g b m : Nat} {x : List Int} {v : Value} {o : List Int} (h : TyB w wr g b [] x m v o) (HT : TabS w) (A : Option Addr) (cap : Nat) (hr : Kd.C (Kd.int .u8) wr A 1 [13]) (hc : 1 ≤ cap) (hm : m ≤ 10000) :
    Calls Tryd.prog 12 #[.pointer (some ⟨g, 0, none⟩), .slice A 1 cap] wr fun e w' => e = .returned (.int .i64 0) ∧ TyB w w' g b x [] (m + 1) v o := by
  obtain ⟨F, h1, h2, h3, h4, h5⟩ := h
  refine (feed_on h1 HT.n HT.u A cap [13] hr hc (by decide) (by simp only [List.length_cons, List.length_nil]; omega)).mono ?_
  rintro e w' ⟨rfl, hs, hmo⟩
  rw [ty_back] at hs
  have hbl : b < wr.heap.size := World.block_lt_of_cell? _ _ h3
  refine ⟨rfl, _, hs, fun hk => ?_, ?_, h4.kept (fun k e => hmo.block k (h4.lt k e) (h5 k e)) hmo.size, fun k e hk => ?_⟩
  · rcases hk with hk | hk
    · exact h2 hk
    · omega
  · rw [World.cell?_of_block (w := wr) (w' := w') (a := ⟨b, 0, none⟩) (hmo.block b hbl h2)]
    exact h3
  · rcases hk with hk | hk
    · exact h5 k e hk
    · have := h4.lt k e; omega
/-- The first lay: its own row is what is handed on. -/
theorem lay_first {w wr : World} {g b m : Nat} {v : Value} {o : List Int} (h : TyB w wr g b [] [] m v o) (HT : TabS w) (A : Option Addr) (cap : Nat) (l : List Int) (hr : Kd.C (Kd.int .i64) w A l.length l) (hc : l.length ≤ cap) (hl : l.length ≤ 300) (hm : m ≤ 10000) :
    Calls Tryd.prog 16 #[.slice A l.length cap, .pointer (some ⟨b, 0, none⟩)] wr fun e w' => ∃ v', e = .returned v' ∧ TyB w w' g b [] (shown l) (m + 4 * l.length) v' (shown l) := by
  obtain ⟨F, h1, h2, h3, h4, h5⟩ := h
  refine (lay_ok h1 HT h2 h3 A cap l hr hc hl hm).mono ?_
  rintro e w' ⟨v', rfl, F', k1, k2, k3, k4, k5, k6, k7⟩
  exact ⟨v', rfl, F', k1, k4, k5, k6, fun k e => (k7 k e).1⟩
/-- The second: the first's row stays. -/
theorem lay_second {w wr : World} {g b m : Nat} {x : List Int} {v : Value} {o : List Int} (h : TyB w wr g b x [] m v o) (HT : TabS w) (A : Option Addr) (cap : Nat) (l : List Int) (hr : Kd.C (Kd.int .i64) w A l.length l) (hc : l.length ≤ cap) (hl : l.length ≤ 300) (hm : m ≤ 10000) :
    Calls Tryd.prog 16 #[.slice A l.length cap, .pointer (some ⟨b, 0, none⟩)] wr fun e w' => ∃ v', e = .returned v' ∧ TyB w w' g b x (shown l) (m + 4 * l.length) v (o) ∧ IRow w' v' ((shown l).map (.int .i64)) := by
  obtain ⟨F, h1, h2, h3, h4, h5⟩ := h
  refine (lay_ok h1 HT h2 h3 A cap l hr hc hl hm).mono ?_
  rintro e w' ⟨v', rfl, F', k1, k2, k3, k4, k5, k6, k7⟩
  exact ⟨v', rfl, ⟨F', k1, k4, k5, h4.kept (fun k e => k2.block k (h4.lt k e) (h5 k e)) k2.size, fun k e hk => (k3 k hk).elim (h5 k e) (fun hh => by have := h4.lt k e; omega)⟩, k6⟩
/-- With the row that is wanted, too: its own block. -/
def TyW (w wr : World) (g b : Nat) (x y : List Int) (m : Nat) (v : Value) (o : List Int) (v2 : Value) (o2 : List Int) (u : Value) (q : List Int) : Prop :=
  ∃ F, On w wr g (ty x y) m F ∧ IRow wr v (o.map (.int .i64)) ∧ (∀ k, v.ownBlock = some k → ¬ F k) ∧ IRow wr v2 (o2.map (.int .i64)) ∧ IRow wr u (q.map (.int .i64)) ∧ (∀ k, u.ownBlock = some k → ¬ F k ∧ v.ownBlock ≠ some k ∧ v2.ownBlock ≠ some k ∧ w.heap.size ≤ k ∧ k ≠ b) ∧ wr.cell? ⟨b, 0, none⟩ = some (.pointer (some ⟨g, 0, none⟩))
theorem TyB.want {w wr : World} {g b : Nat} {x y : List Int} {m : Nat} {v : Value} {o : List Int} {v2 : Value} {o2 : List Int} (h : TyB w wr g b x y m v o) (h2 : IRow wr v2 (o2.map (.int .i64))) (ob : Obj) (u : Value) (hu : IRow (wr.alloc ob) u []) (hub : ∀ k, u.ownBlock = some k → k = wr.heap.size) : TyW w (wr.alloc ob) g b x y m v o v2 o2 u [] := by
  obtain ⟨F, k1, k2, k3, k4, k5⟩ := h
  have hb : Below wr.heap.size wr (wr.alloc ob) := (Below.refl _ wr).alloc (Nat.le_refl _) ob
  have hbl : b < wr.heap.size := World.block_lt_of_cell? _ _ k3
  refine ⟨F, k1.below hb, k4.below hb, k5, h2.below hb, hu, fun k e => ?_, cell_stays k3 hb⟩
  obtain rfl := hub k e
  exact ⟨fun hk => (by have := k1.x.lt _ hk; omega), fun e => (by have := k4.lt _ e; omega), fun e => (by have := h2.lt _ e; omega), k1.G.b.size, by omega⟩
theorem TyW.grown {w wr W : World} {g b : Nat} {x y : List Int} {m : Nat} {v : Value} {o : List Int} {v2 : Value} {o2 : List Int} {u u' : Value} {q q' : List Int} (h : TyW w wr g b x y m v o v2 o2 u q) (hown : IRow W u' (q'.map (.int .i64))) (hg : wr.grownBy W u.ownBlock) (hbl : u'.ownBlock = u.ownBlock ∨ u'.ownBlock = some wr.heap.size) : TyW w W g b x y m v o v2 o2 u' q' := by
  obtain ⟨F, k1, k2, k3, k4, k5, k6, k7⟩ := h
  have hm : Mod (fun k => u.ownBlock = some k) wr W := Mod.ofGrown hg (fun k e => e)
  have hG : Gr w wr (fun k => u.ownBlock = some k) := ⟨k1.G.b, fun k e => (k6 k e).2.2.2.1⟩
  have hbb : b < wr.heap.size := World.block_lt_of_cell? _ _ k7
  refine ⟨F, k1.apart hm (fun k hk e => (k6 k e).1 hk) hG, k2.kept (fun k e => hm.block k (k2.lt k e) (fun e2 => (k6 k e2).2.1 e)) hm.size, k3, k4.kept (fun k e => hm.block k (k4.lt k e) (fun e2 => (k6 k e2).2.2.1 e)) hm.size, hown, fun k e => ?_, ?_⟩
  · rcases hbl with e2 | e2
    · rw [e2] at e; exact k6 k e
    · rw [e2] at e
      obtain rfl := Option.some.inj e
      exact ⟨fun hk => (by have := k1.x.lt _ hk; omega), fun e => (by have := k2.lt _ e; omega), fun e => (by have := k4.lt _ e; omega), k1.G.b.size, by omega⟩
  · rw [World.cell?_of_block (w := wr) (w' := W) (a := ⟨b, 0, none⟩) (hm.block b hbb (fun e => (k6 b e).2.2.2.2 rfl))]
    exact k7
theorem TyW.below {w wr W : World} {g b : Nat} {x y : List Int} {m : Nat} {v : Value} {o : List Int} {v2 : Value} {o2 : List Int} {u : Value} {q : List Int} (h : TyW w wr g b x y m v o v2 o2 u q) (hb : Below wr.heap.size wr W) : TyW w W g b x y m v o v2 o2 u q := by
  obtain ⟨F, k1, k2, k3, k4, k5, k6, k7⟩ := h
  exact ⟨F, k1.below hb, k2.below hb, k3, k4.below hb, k5.below hb, k6, cell_stays k7 hb⟩
theorem TyW.row {w wr : World} {g b : Nat} {x y : List Int} {m : Nat} {v : Value} {o : List Int} {v2 : Value} {o2 : List Int} {u : Value} {q : List Int} (h : TyW w wr g b x y m v o v2 o2 u q) : IRow wr u (q.map (.int .i64)) := by
  obtain ⟨F, k1, k2, k3, k4, k5, k6, k7⟩ := h
  exact k5
theorem TyW.row1 {w wr : World} {g b : Nat} {x y : List Int} {m : Nat} {v : Value} {o : List Int} {v2 : Value} {o2 : List Int} {u : Value} {q : List Int} (h : TyW w wr g b x y m v o v2 o2 u q) : IRow wr v (o.map (.int .i64)) := by
  obtain ⟨F, k1, k2, k3, k4, k5, k6, k7⟩ := h
  exact k2
theorem TyW.row2 {w wr : World} {g b : Nat} {x y : List Int} {m : Nat} {v : Value} {o : List Int} {v2 : Value} {o2 : List Int} {u : Value} {q : List Int} (h : TyW w wr g b x y m v o v2 o2 u q) : IRow wr v2 (o2.map (.int .i64)) := by
  obtain ⟨F, k1, k2, k3, k4, k5, k6, k7⟩ := h
  exact k4
theorem TyW.cell {w wr : World} {g b : Nat} {x y : List Int} {m : Nat} {v : Value} {o : List Int} {v2 : Value} {o2 : List Int} {u : Value} {q : List Int} (h : TyW w wr g b x y m v o v2 o2 u q) : wr.cell? ⟨b, 0, none⟩ = some (.pointer (some ⟨g, 0, none⟩)) := by
  obtain ⟨F, k1, k2, k3, k4, k5, k6, k7⟩ := h
  exact k7
theorem TyW.b {w wr : World} {g b : Nat} {x y : List Int} {m : Nat} {v : Value} {o : List Int} {v2 : Value} {o2 : List Int} {u : Value} {q : List Int} (h : TyW w wr g b x y m v o v2 o2 u q) : Below w.heap.size w wr := by
  obtain ⟨F, k1, k2, k3, k4, k5, k6, k7⟩ := h
  exact k1.G.b
theorem TyW.on {w wr : World} {g b : Nat} {x y : List Int} {m : Nat} {v : Value} {o : List Int} {v2 : Value} {o2 : List Int} {u : Value} {q : List Int} (h : TyW w wr g b x y m v o v2 o2 u q) : ∃ F, On w wr g (ty x y) m F := by
  obtain ⟨F, k1, k2, k3, k4, k5, k6, k7⟩ := h
  exact ⟨F, k1⟩
theorem Src64_of {w : World} {A : Option Addr} {c : Nat} {l : List Int} (hr : Kd.C (Kd.int .i64) w A l.length l) (hc : l.length ≤ c) : Src Tryd.prog 1 33 (.slice A l.length c) l.length (l.map (.int .i64)) w := by
  have h := Kd.reads_of_C (d := (0 : Int)) hr
  by_cases hz : l.length = 0
  · have : l = [] := List.eq_nil_of_length_eq_zero hz
    subst this
    cases A with
    | none => exact Src.ofNil w Tryd.underlying33 c
    | some a => exact Src.ofSlice w Tryd.underlying33 a 0 c [] rfl (fun j u hj => by simp at hj) (fun u hu => by simp at hu)
  · obtain ⟨a, rfl, hcell⟩ := h.2.2 (by omega)
    refine Src.ofSlice w Tryd.underlying33 a l.length c (l.map (.int .i64)) (by simp) (fun j u hj => ?_) (fun u hu => ?_)
    · rw [List.getElem?_map] at hj
      by_cases hjl : j < l.length
      · rw [List.getElem?_eq_getElem hjl] at hj
        have hj : Value.int .i64 l[j] = u := by simpa using hj
        rw [hcell j hjl, ← hj]
        simp [List.getD_eq_getElem?_getD, List.getElem?_eq_getElem hjl]
      · rw [List.getElem?_eq_none (by omega)] at hj; cases hj
    · obtain ⟨x, _, rfl⟩ := List.mem_map.1 hu
      rfl
theorem Src64_drop {w : World} {A : Option Addr} {c : Nat} {l : List Int} (k : Nat) (hr : Kd.C (Kd.int .i64) w A l.length l) (hc : l.length ≤ c) (hk : k < l.length) : Src Tryd.prog 1 33 (.slice (A.map (fun x => x.add k)) (l.length - k) (c - k)) (l.length - k) ((l.drop k).map (.int .i64)) w := by
  obtain ⟨a, rfl, hcell⟩ := (Kd.reads_of_C (d := (0 : Int)) hr).2.2 (by omega)
  have hd := C_drop hr k (by omega) (.inl rfl)
  have h2 := Src64_of (c := c - k) hd (by rw [List.length_drop]; omega)
  rw [List.length_drop] at h2
  exact h2
theorem tyPlaceW {w wr : World} {g b : Nat} {x y : List Int} {m : Nat} {v : Value} {o : List Int} {v2 : Value} {o2 : List Int} {u : Value} {q : List Int} (h : TyW w wr g b x y m v o v2 o2 u q) : Calls Tryd.prog 13 #[.pointer (some ⟨g, 0, none⟩)] wr fun e w' => e = .returned (.tuple #[.int .i64 0, .int .i64 (y.length : Nat)]) ∧ Below wr.heap.size wr w' := by
  obtain ⟨F, h⟩ := h.on
  exact place_ok wr g _ F h.x
theorem tyOddW {w wr : World} {g b : Nat} {x y : List Int} {m : Nat} {v : Value} {o : List Int} {v2 : Value} {o2 : List Int} {u : Value} {q : List Int} (h : TyW w wr g b x y m v o v2 o2 u q) : Calls Tryd.prog 15 #[.pointer (some ⟨g, 0, none⟩)] wr fun e w' => e = .returned (.int .i64 0) ∧ Below wr.heap.size wr w' := by
  obtain ⟨F, h⟩ := h.on
  exact odd_ok wr g _ F h.x
theorem tyRowsW {w wr : World} {g b : Nat} {x y : List Int} {m : Nat} {v : Value} {o : List Int} {v2 : Value} {o2 : List Int} {u : Value} {q : List Int} (h : TyW w wr g b x y m v o v2 o2 u q) : Calls Tryd.prog 20 #[.pointer (some ⟨g, 0, none⟩)] wr fun e w' => e = .returned (.int .i64 1) ∧ Below wr.heap.size wr w' := by
  obtain ⟨F, h⟩ := h.on
  exact rows_ok wr g _ F h.x
theorem tyRowW {w wr : World} {g b : Nat} {x y : List Int} {m : Nat} {v : Value} {o : List Int} {v2 : Value} {o2 : List Int} {u : Value} {q : List Int} (h : TyW w wr g b x y m v o v2 o2 u q) (hm : m ≤ 100000) (r : List Int) (hr : y ++ x.drop y.length = r) : Calls Tryd.prog 14 #[.pointer (some ⟨g, 0, none⟩), .int .i64 0] wr fun e w' => e = .returned (.string (runesBytes r)) ∧ Below wr.heap.size wr w' := by
  obtain ⟨F, h⟩ := h.on
  subst hr
  exact rowS_ok wr g _ F m h.x h.f.fine (by omega) 0 (Nat.zero_lt_succ _)
set_option maxHeartbeats 4000000 in
set_option maxRecDepth 100000 in
theorem ScreenTyped_walk (a0 : Option Addr) (len0 cap0 : Nat) (z0 : List Int) (a1 : Option Addr) (len1 cap1 : Nat) (z1 : List Int) (w : World) (HT : TabS w)
    (w0 : (a0 = none ∧ len0 = 0 ∧ cap0 = 0 ∧ z0 = []) ∨ ∃ x, a0 = some x ∧ len0 ≤ cap0 ∧ cap0 ≤ maxLen ∧ z0.length = cap0 ∧ (∀ i, i < z0.length → w.cell? (x.add i) = some (.int .i64 (z0.getD i 0))) ∧ ∀ n ∈ z0, (Lit.int .i64 n).wf = true)
    (y0 : len0 * 8 ≤ 140737488351232)
    (w1 : (a1 = none ∧ len1 = 0 ∧ cap1 = 0 ∧ z1 = []) ∨ ∃ x, a1 = some x ∧ len1 ≤ cap1 ∧ cap1 ≤ maxLen ∧ z1.length = cap1 ∧ (∀ i, i < z1.length → w.cell? (x.add i) = some (.int .i64 (z1.getD i 0))) ∧ ∀ n ∈ z1, (Lit.int .i64 n).wf = true)
    (y1 : len1 * 8 ≤ 140737488351232) :
    Calls Tryd.prog 4 #[.slice a0 len0 cap0, .slice a1 len1 cap1] w fun e w' => e = .returned (.bool true) ∧ Below w.heap.size w w' := by
  obtain ⟨l1, rfl, hC1, hcap1, hcm1, hwf1, hnn1⟩ := row_in w0
  obtain ⟨l2, rfl, hC2, hcap2, hcm2, hwf2, hnn2⟩ := row_in w1
  have hmf : ∀ (fn : Fn) (first cap : Array Value) (w : World), (Instr.makeFunc fn first cap).run Tryd.prog w = .ok (.func fn first cap) w := fun _ _ _ _ => rfl
  have hCA := Aside0.mk hC1
  have hDA := Aside0.mk hC2
  clear w0 w1 z0 z1 hC1 hC2 hwf1 hwf2 hnn1 hnn2
  go_enter Tryd.func4, Tryd.ntmps4
  go_wp2_with (fail)
  refine (new_ok _).mono ?_
  rintro e w1 ⟨g, rfl, hs1, hb1⟩
  have S1 := Aside0.mk (On.new (Below.refl _ w) hs1 hb1)
  have B1 := Aside0.mk hb1
  clear hb1 hs1
  go_wp2_with (fail)
  have hb2 : Below w1.heap.size w1 (w1.alloc (.cells #[.pointer (some ⟨g, 0, none⟩)] 23)) := (Below.refl _ w1).alloc (Nat.le_refl _) _
  have T2 := Aside0.mk (show TyB w (w1.alloc (.cells #[.pointer (some ⟨g, 0, none⟩)] 23)) g w1.heap.size [] [] 1 (.slice none 0 0) [] from
    ⟨_, S1.out.below hb2, fun h => by have := h.2; omega, (blk_cell (heap_alloc_new w1 _) 0).trans rfl, .inl ⟨rfl, rfl⟩, fun k e => by cases e⟩)
  have ht2 := HT.below T2.out.b
  clear hb2 S1
  refine (alive_ok _ ht2.n ht2.u).mono ?_
  rintro e w3 ⟨rfl, hb3⟩
  have T3 := Aside0.mk (T2.out.below hb3)
  clear hb3 ht2 T2
  generalize w1.heap.size = b at *
  have hcl3 := T3.out.cell
  by_cases hbig : 300 < l1.length ∨ 300 < l2.length
  · have hgo : (300 : Int) < (l1.length : Int) ∨ ((l1.length : Int) ≤ 300 ∧ (300 : Int) < (l2.length : Int)) := by omega
    have ht3 := HT.below T3.out.b
    rcases hgo with h1 | ⟨h1, h2⟩
    all_goals
      go_wp2_with (fail)
      refine (alive_ok _ ht3.n ht3.u).mono ?_
      rintro e w4 ⟨rfl, hb4⟩
      have hfin := Aside0.mk (T3.out.below hb4).b
      clear hb4 ht3
      go_wp2_with (fail)
      go_ret
      exact ⟨rfl, hfin.out⟩
  · have h1 : (l1.length : Int) ≤ 300 := by omega
    have h2 : (l2.length : Int) ≤ 300 := by omega
    go_wp2_with (fail)
    refine (lay_first T3.out HT a0 cap0 l1 hCA.out hcap1 (by omega) (by omega)).mono ?_
    rintro e w4 ⟨v1, rfl, T4⟩
    have T4 := Aside0.mk T4
    clear T3 hcl3
    obtain ⟨A1, c1, hv1, hA1, _⟩ := T4.out.row.slice
    rw [List.length_map] at hv1 hA1
    subst hv1
    have hcl4 := T4.out.cell
    go_wp2_with (fail)
    have R4 := tyRow_ok T4.out (by omega) (shown l1) (by simp)
    refine R4.mono ?_
    rintro e w5 ⟨rfl, hb5⟩
    have T5 := Aside0.mk (T4.out.below hb5)
    clear hb5 R4 T4 hcl4
    have X5 := text14_ok A1 c1 (shown l1) w5 (C_of_irow64 T5.out.row) hA1 (by have := shown_len l1; omega) (shown_char l1)
    go_wp2_with (fail)
    refine X5.mono ?_
    rintro e w6 ⟨rfl, hb6⟩
    have T6 := Aside0.mk (T5.out.below hb6)
    clear hb6 X5 T5
    have hcl6 := T6.out.cell
    go_wp2_with (fail)
    have hb7 : Below w6.heap.size w6 (w6.alloc (.cells #[.int .u8 13] 5)) := (Below.refl _ w6).alloc (Nat.le_refl _) _
    refine (ty_feed13 (T6.out.below hb7) HT (some ⟨w6.heap.size, 0, none⟩) 1 (lit_reads w6 [13] 5 (0, 0) (by decide)) (by decide) (by omega)).mono ?_
    rintro e w8 ⟨rfl, T8⟩
    have T8 := Aside0.mk T8
    clear hb7 T6 hcl6
    go_wp2_with (fail)
    refine (lay_second T8.out HT a1 cap1 l2 hDA.out hcap2 (by omega) (by omega)).mono ?_
    rintro e w9 ⟨v2, rfl, T9, R9⟩
    have T9 := Aside0.mk T9
    have R9 := Aside0.mk R9
    clear T8
    obtain ⟨A2, c2, hv2, hA2, _⟩ := R9.out.slice
    rw [List.length_map] at hv2 hA2
    subst hv2
    have i_ := info_parts info_int
    obtain ⟨i0, hi0, hz0, hz1, hz2⟩ := i_
    have W10 := Aside0.mk (T9.out.want R9.out (.cells #[] 3) (.slice (some ⟨w9.heap.size, 0, none⟩) 0 0) (.inr ⟨w9.heap.size, 0, 0, rfl, Nat.le_refl _, Nat.zero_le _, by rw [World.alloc]; simp, fun j u hj => (by cases hj), fun j hj => absurd hj (Nat.not_lt_zero _)⟩) (fun k e => (Option.some.inj e).symm))
    clear T9 R9
    obtain ⟨r, hr⟩ : ∃ r, Aside0 (shown l2 ++ (shown l1).drop (shown l2).length = r) := ⟨_, ⟨rfl⟩⟩
    have hrl : r.length ≤ 1000 := by
      have h1 := shown_len l1
      have h2 := shown_len l2
      rw [← hr.out, List.length_append, List.length_drop]
      omega
    have hrc : ∀ x ∈ r, isChar x = true := fun x hx => by
      rw [← hr.out] at hx
      rcases List.mem_append.1 hx with h | h
      · exact shown_char l2 x h
      · exact shown_char l1 x (List.mem_of_mem_drop h)
    have hAt := Aside0.mk (show True from trivial)
    by_cases hxy : (shown l2).length < (shown l1).length
    · have hxyI : ((shown l2).length : Int) < ((shown l1).length : Int) := by omega
      have hne : c1 ≠ (shown l2).length := by omega
      go_wp2_with (at_builtin; first | (refine wpList_append_irow _ rfl _ _ 33 33 rfl 3 i0 (.int .i64 0) 8 Tryd.underlying33 hi0 hz0 hz1 hz2 rfl rfl W10.out.row rfl _ _ (Src64_of (C_of_irow64 W10.out.row2) hA2) (by have := shown_len l2; simp only [List.length_map, List.length_nil]; unfold maxLen; omega) (by have := shown_len l2; simp only [List.length_map, List.length_nil]; omega) ?_; intro u1 w11 hown hgr hbl; have W11 := Aside0.mk (W10.out.grown (q' := shown l2) (by simpa using hown) hgr hbl); clear hown hgr hbl W10; obtain ⟨A3, c3, hv3, hA3, _⟩ := W11.out.row.slice; rw [List.length_map] at hv3 hA3; subst hv3; have hclW := W11.out.cell) | (refine wpList_append_irow _ rfl _ _ 33 33 rfl 3 i0 (.int .i64 0) 8 Tryd.underlying33 hi0 hz0 hz1 hz2 rfl rfl W11.out.row rfl _ _ (Src64_drop (shown l2).length (C_of_irow64 W11.out.row1) hA1 hxy) (by have := shown_len l1; simp only [List.length_map]; unfold maxLen; omega) (by have := shown_len l1; simp only [List.length_map]; omega) ?_; intro u2 w12 hown hgr hbl; have W12 := Aside0.mk (W11.out.grown (q' := r) (by rw [← hr.out]; simpa using hown) hgr hbl); clear hown hgr hbl W11 hclW; obtain ⟨A4, c4, hv4, hA4, _⟩ := W12.out.row.slice; rw [List.length_map] at hv4 hA4; subst hv4; have hclW := W12.out.cell))
      refine (tyPlaceW W12.out).mono ?_
      rintro e w20 ⟨rfl, hb20⟩
      have W20 := Aside0.mk (W12.out.below hb20)
      clear hb20 hclW W12
      have hclW := W20.out.cell
      go_wp2_with (fail)
      refine (tyRowW W20.out (by omega) r hr.out).mono ?_
      rintro e w21 ⟨rfl, hb21⟩
      have W21 := Aside0.mk (W20.out.below hb21)
      clear hb21 hclW W20
      have hclW := W21.out.cell
      go_wp2_with (fail)
      refine (text14_ok A4 c4 r w21 (C_of_irow64 W21.out.row) hA4 (by omega) hrc).mono ?_
      rintro e w22 ⟨rfl, hb22⟩
      have W22 := Aside0.mk (W21.out.below hb22)
      clear hb22 hclW W21
      have hclW := W22.out.cell
      go_wp2_with (fail)
      refine (tyOddW W22.out).mono ?_
      rintro e w23 ⟨rfl, hb23⟩
      have W23 := Aside0.mk (W22.out.below hb23)
      clear hb23 hclW W22
      have hclW := W23.out.cell
      go_wp2_with (fail)
      refine (tyRowsW W23.out).mono ?_
      rintro e w24 ⟨rfl, hb24⟩
      have W24 := Aside0.mk (W23.out.below hb24)
      clear hb24 hclW W23
      have hclW := W24.out.cell
      go_wp2_with (fail)
      go_ret
      exact ⟨rfl, W24.out.b⟩
    · have hxyI : ((shown l1).length : Int) ≤ ((shown l2).length : Int) := by omega
      have hrr := Aside0.mk (show shown l2 = r by rw [← hr.out, List.drop_of_length_le (by omega), List.append_nil])
      go_wp2_with (at_builtin; refine wpList_append_irow _ rfl _ _ 33 33 rfl 3 i0 (.int .i64 0) 8 Tryd.underlying33 hi0 hz0 hz1 hz2 rfl rfl W10.out.row rfl _ _ (Src64_of (C_of_irow64 W10.out.row2) hA2) (by have := shown_len l2; simp only [List.length_map, List.length_nil]; unfold maxLen; omega) (by have := shown_len l2; simp only [List.length_map, List.length_nil]; omega) ?_; intro u1 w11 hown hgr hbl; have W11 := Aside0.mk (W10.out.grown (q' := r) (by rw [← hrr.out]; simpa using hown) hgr hbl); clear hown hgr hbl W10; obtain ⟨A3, c3, hv3, hA3, _⟩ := W11.out.row.slice; rw [List.length_map] at hv3 hA3; subst hv3; have hclW := W11.out.cell)
      refine (tyPlaceW W11.out).mono ?_
      rintro e w20 ⟨rfl, hb20⟩
      have W20 := Aside0.mk (W11.out.below hb20)
      clear hb20 hclW W11
      have hclW := W20.out.cell
      go_wp2_with (fail)
      refine (tyRowW W20.out (by omega) r hr.out).mono ?_
      rintro e w21 ⟨rfl, hb21⟩
      have W21 := Aside0.mk (W20.out.below hb21)
      clear hb21 hclW W20
      have hclW := W21.out.cell
      go_wp2_with (fail)
      refine (text14_ok A3 c3 r w21 (C_of_irow64 W21.out.row) hA3 (by omega) hrc).mono ?_
      rintro e w22 ⟨rfl, hb22⟩
      have W22 := Aside0.mk (W21.out.below hb22)
      clear hb22 hclW W21
      have hclW := W22.out.cell
      go_wp2_with (fail)
      refine (tyOddW W22.out).mono ?_
      rintro e w23 ⟨rfl, hb23⟩
      have W23 := Aside0.mk (W22.out.below hb23)
      clear hb23 hclW W22
      have hclW := W23.out.cell
      go_wp2_with (fail)
      refine (tyRowsW W23.out).mono ?_
      rintro e w24 ⟨rfl, hb24⟩
      have W24 := Aside0.mk (W23.out.below hb24)
      clear hb24 hclW W23
      have hclW := W24.out.cell
      go_wp2_with (fail)
      go_ret
      exact ⟨rfl, W24.out.b⟩
end Go.Proofs.YtmdeehblmkpddaaDoor.Hand
