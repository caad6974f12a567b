/- The document's Read: what is seen of all bytes. -/
import Derived.Test.YtmdeehblmkpddaaDoorHandSeq14
import Derived.Test.YtmdeehblmkpddaaDoorHandRef01
namespace Go.Proofs.YtmdeehblmkpddaaDoor.Hand
open Go.RowKit Go.Proofs.YtmdeehblmkpddaaDoorW.PrintWords Go.Proofs.YtmdeehblmkpddaaDoorW.PrintLast
set_option linter.unusedVariables false
set_option linter.unusedSimpArgs false
theorem ba_of {t : ByteArray} {l : List UInt8} (h : t.data.toList = l) : t = ⟨l.toArray⟩ := by
  apply ByteArray.ext
  rw [← h]
theorem seeSeq (w0 w : World) (g : Nat) (s : SM) (vr : Value) (vs : List Value) (n : Nat) (t : ByteArray) (L : List UInt8) (h : SeeX w0 w g s vr vs) (hf : s.Fine n) (hn : n ≤ 1000000) (ht : t.size ≤ 100000) (hL : L = 27 :: t.data.toList) :
    Calls Tryd.prog 39 #[.pointer (some ⟨g, 0, none⟩), .string t] w fun e w' => e = .returned (.bool (s.seq L).2) ∧ ∃ vr' vs', SeeX w0 w' g (s.seq L).1 vr' vs' := by
  subst hL
  by_cases h1 : t = ⟨#[91, 75]⟩
  · subst h1
    refine (seeCut w0 w g s vr vs n h hf hn).mono ?_
    rintro e w' ⟨rfl, h⟩
    exact ⟨rfl, h⟩
  · by_cases h2 : t = ⟨#[91, 63, 50, 48, 48, 52, 104]⟩
    · subst h2
      refine (seePast w0 w g s vr vs true _ h (.inl ⟨rfl, rfl⟩)).mono ?_
      rintro e w' ⟨rfl, h⟩
      exact ⟨rfl, _, _, h⟩
    · by_cases h3 : t = ⟨#[91, 63, 50, 48, 48, 52, 108]⟩
      · subst h3
        refine (seePast w0 w g s vr vs false _ h (.inr ⟨rfl, rfl⟩)).mono ?_
        rintro e w' ⟨rfl, h⟩
        exact ⟨rfl, _, _, h⟩
      · refine (seeBack w0 w g s vr vs n t h hf hn ht h1 h2 h3).mono ?_
        rintro e w' ⟨rfl, h⟩
        have e1 : (27 :: t.data.toList) ≠ tK := fun e => h1 (ba_of (List.cons.inj e).2)
        have e2 : (27 :: t.data.toList) ≠ tH := fun e => h2 (ba_of (List.cons.inj e).2)
        have e3 : (27 :: t.data.toList) ≠ tL := fun e => h3 (ba_of (List.cons.inj e).2)
        have e4 : s.seq (27 :: t.data.toList) = if backOk (27 :: t.data.toList) = true then ({ s with col := s.col - (atoiV (backP (27 :: t.data.toList))).toNat }, true) else (s, false) := by
          unfold SM.seq
          rw [if_neg e1, if_neg e2, if_neg e3]
        rw [e4]
        by_cases hb : backOk (27 :: t.data.toList) = true
        · rw [if_pos hb] at h
          rw [if_pos hb, hb]
          exact ⟨rfl, _, _, h⟩
        · rw [if_neg hb] at h
          rw [if_neg hb, Bool.eq_false_iff.mpr hb]
          exact ⟨rfl, _, _, h⟩
/-- In the midst of a reading: the screen so far, at byte i. -/
structure RdS (L : List Int) (i : Nat) (s : SM) : Prop where
  le : i ≤ L.length
  wait : s.wait = []
  fine : s.Fine (1 + i)
  all : (s.put (L.drop i)).all = SM.fresh.feed L
theorem RdS.start (L : List Int) : RdS L 0 SM.fresh := ⟨Nat.zero_le _, rfl, fresh_fine, by rw [List.drop_zero, feed_all]; rfl⟩
theorem RdS.done {L : List Int} {s : SM} (h : RdS L L.length s) : SM.fresh.feed L = s := by
  rw [← h.all, List.drop_length]
  have := h.wait
  unfold SM.all
  rw [run_end (put_wait s []), ← this]
  exact put_same s
theorem RdS.stop {L : List Int} {i : Nat} {s : SM} (h : RdS L i s) (hi : i < L.length) (hz : (s.put (L.drop i)).step.2 = 0) : (SM.fresh.feed L).put [] = s := by
  have hne : L.drop i ≠ [] := by
    intro e
    have := congrArg List.length e
    simp at this
    omega
  rw [← h.all]
  unfold SM.all
  rw [run_stop (s := s.put (L.drop i)) hne hz, step_none (s := s.put (L.drop i)) hne hz, put_put, ← h.wait]
  exact put_same s
theorem RdS.next {L : List Int} {i k : Nat} {s s' : SM} (h : RdS L i s) (hi : i < L.length) (hb : ∀ x ∈ L, 0 ≤ x ∧ x ≤ 255) (hst : (s.put (L.drop i)).step = (s'.put (L.drop i), k)) (hk : k ≠ 0) (hw : s'.wait = []) : RdS L (i + k) s' := by
  have hne : L.drop i ≠ [] := by
    intro e
    have := congrArg List.length e
    simp at this
    omega
  have hle := step_le (s := s.put (L.drop i)) hne
  rw [hst, put_wait, List.length_drop] at hle
  have hle' : k ≤ L.length - i := hle
  have e0 : s'.put [] = s' := by rw [← hw]; exact put_same s'
  have e1 : s.put [] = s := by rw [← h.wait]; exact put_same s
  refine ⟨by omega, hw, ?_, ?_⟩
  · have := step_tight (s := s.put (L.drop i)) (m := 1 + i) (by rw [put_put, e1]; exact h.fine) hne (fun x hx => hb x (List.mem_of_mem_drop hx))
    rw [hst] at this
    rw [put_put, e0] at this
    rw [← Nat.add_assoc]
    exact this
  · rw [← h.all]
    unfold SM.all
    rw [run_next (s := s.put (L.drop i)) hne (by rw [hst]; exact hk), hst, put_wait, put_wait, List.drop_drop]
    rfl
theorem RdS.esc {L : List Int} {i : Nat} {s : SM} (h27 : (L.drop i).getD 0 0 = 27) (he : (nextL (L.drop i)).2.2.2 = 0) :
    (s.put (L.drop i)).step = ((SM.odds (s.seq (strOfNums ((L.drop i).take (nextL (L.drop i)).2.2.1.toNat)).data.toList) (nextL (L.drop i)).2.2.1.toNat).put (L.drop i), (nextL (L.drop i)).2.2.1.toNat) := by
  unfold SM.step
  rw [put_wait, if_pos h27, if_neg (by simp [he]), seq_put, odds_put]
theorem RdS.escStop {L : List Int} {i : Nat} {s : SM} (h27 : (L.drop i).getD 0 0 = 27) (he : (nextL (L.drop i)).2.2.2 ≠ 0) : (s.put (L.drop i)).step.2 = 0 := by
  unfold SM.step
  rw [put_wait, if_pos h27, if_pos he]
theorem RdS.chr {L : List Int} {i : Nat} {s : SM} (h27 : (L.drop i).getD 0 0 ≠ 27) (he : (nxL (L.drop i)).2.2 ≠ 7) :
    (s.put (L.drop i)).step = ((SM.odds (if (nxL (L.drop i)).2.2 = 0 then s.char ((nxL (L.drop i)).1 : Nat) else (s, false)) (nxL (L.drop i)).2.1).put (L.drop i), (nxL (L.drop i)).2.1) := by
  unfold SM.step
  rw [put_wait, if_neg h27, if_neg he]
  by_cases h0 : (nxL (L.drop i)).2.2 = 0
  · rw [if_pos h0, if_pos h0, char_put, odds_put]
  · rw [if_neg h0, if_neg h0]
    exact congrArg (fun x => (x, (nxL (L.drop i)).2.1)) (odds_put (s, false) (L.drop i) _)
theorem RdS.chrStop {L : List Int} {i : Nat} {s : SM} (h27 : (L.drop i).getD 0 0 ≠ 27) (he : (nxL (L.drop i)).2.2 = 7) : (s.put (L.drop i)).step.2 = 0 := by
  unfold SM.step
  rw [put_wait, if_neg h27, if_pos he]
set_option maxRecDepth 100000 in
set_option maxHeartbeats 4000000 in
theorem see_fresh (w0 w : World) (hb : Below w0.heap.size w0 w) : SeeX w0 ((w.alloc (.cells #[.slice none 0 0] 33)).alloc (.cells (seeCells SM.fresh (.slice (some ⟨w.heap.size, 0, none⟩) 1 1)) 69)) (w.heap.size + 1) SM.fresh (.slice (some ⟨w.heap.size, 0, none⟩) 1 1) [.slice none 0 0] := by
  have h0 := heap_alloc_new w (.cells #[.slice none 0 0] 33)
  have h1 := heap_alloc_new (w.alloc (.cells #[.slice none 0 0] 33)) (.cells (seeCells SM.fresh (.slice (some ⟨w.heap.size, 0, none⟩) 1 1)) 69)
  have hs : (w.alloc (.cells #[.slice none 0 0] 33)).heap.size = w.heap.size + 1 := by simp
  have h2 := heap_alloc_old (w.alloc (.cells #[.slice none 0 0] 33)) (.cells (seeCells SM.fresh (.slice (some ⟨w.heap.size, 0, none⟩) 1 1)) 69) (show w.heap.size < _ by omega)
  have h0' := h2.trans h0
  rw [hs] at h1
  have hs2 : ((w.alloc (.cells #[.slice none 0 0] 33)).alloc (.cells (seeCells SM.fresh (.slice (some ⟨w.heap.size, 0, none⟩) 1 1)) 69)).heap.size = w.heap.size + 2 := by simp
  refine ⟨h1, .inr ⟨w.heap.size, 0, 1, rfl, Nat.le_refl _, by unfold maxLen; omega, by rw [hs2]; omega, fun j u hj => ?_, fun j hj => ?_⟩, rfl, fun i v hv => ?_, fun b e => ?_, fun i v hv b e => ?_, by have := hb.size; omega, ((hb.alloc hb.size _).alloc (by have := hb.size; rw [hs]; omega) _)⟩
  · match j, hj with
    | 0, hj => injection hj with hj; subst hj; exact (blk_cell h0' 0).trans rfl
    | j + 1, hj => simp at hj
  · have : j = 0 := by omega
    subst this
    exact ⟨by rw [show (0 + 0 : Nat) = 0 from rfl, blk_cell h0' 0]; rfl, blk_frozen h0' _⟩
  · match i, hv with
    | 0, hv => injection hv with hv; subst hv; exact .inl ⟨rfl, rfl⟩
    | i + 1, hv => simp at hv
  · have e : w.heap.size = b := Option.some.inj e
    subst e
    exact ⟨by omega, hb.size⟩
  · match i, hv with
    | 0, hv => injection hv with hv; subst hv; cases e
    | i + 1, hv => simp at hv
theorem esc_str {L : List Int} {i N : Nat} (hi : i < L.length) (h27 : (L.drop i).getD 0 0 = 27) (h1 : 1 ≤ N) : (strOfNums ((L.drop i).take N)).data.toList = 27 :: (strOfNums ((L.take ((i : Int) + (N : Int)).toNat).drop ((i : Int) + 1).toNat)).data.toList := by
  have h := str_tail (L.drop i) (N - 1) h27 (by rw [List.length_drop]; omega)
  rw [show N - 1 + 1 = N by omega, ByteArray.toList_eq] at h
  rw [h, show ((i : Int) + (N : Int)).toNat = i + N by omega, show ((i : Int) + 1).toNat = i + 1 by omega]
  congr 3
  rw [List.take_drop, List.drop_drop]
theorem strNums_size (l : List Int) : (strOfNums l).size = l.length := by
  unfold strOfNums
  show (List.toArray _).size = _
  simp
theorem info_rowS : (Tryd.prog.info? 33).map (fun i => (i.zero, i.size, i.bytes)) = some (some (.slice none 0 0), 1, 24) := by kernel_rfl
theorem SeeX.lineFacts {w0 w W : World} {g : Nat} {s : SM} {vr : Value} {vs : List Value} (h : SeeX w0 w g s vr vs) (hg : w.grownBy W vr.ownBlock) : W.cell? ⟨g, 0, none⟩ = some vr ∧ W.frozen? ⟨g, 0, none⟩ = false := by
  have hm : Mod (fun k => vr.ownBlock = some k) w W := Mod.ofGrown hg (fun k e => e)
  have hgW : W.heap[g]? = w.heap[g]? := hm.block g h.glt (fun e => (h.r1 g e).1 rfl)
  have me := hgW.trans h.me
  exact ⟨(blk_cell me 0).trans rfl, blk_frozen me 0⟩
set_option maxHeartbeats 1600000 in
set_option maxRecDepth 100000 in
theorem readS (w : World) (A : Option Addr) (c : Nat) (L : List Int) (hr : Kd.C (Kd.int .u8) w A L.length L) (hc : L.length ≤ c) (hb : ∀ x ∈ L, 0 ≤ x ∧ x ≤ 255) (hn : L.length ≤ 10000) :
    Calls Tryd.prog 22 #[.slice A L.length c] w fun e w' => ∃ g vr vs, e = .returned (.pointer (some ⟨g, 0, none⟩)) ∧ SeeX w w' g ((SM.fresh.feed L).put []) vr vs := by
  obtain ⟨i0, hi0, _, hsz, _⟩ := info_parts info_u8
  have H0 := Aside0.mk (see_fresh w w (Below.refl _ w))
  unfold seeCells SM.fresh at H0
  have HR := Aside0.mk hr
  have HB := Aside0.mk hb
  clear hr hb
  go_enter Tryd.func22, Tryd.ntmps22
  go_wp2_with (fail)
  go_loopw [4] (fun v4 wr => ∃ i : Nat, v4 = .int .i64 i ∧ Aside0 (∃ s vr vs, SeeX w wr (w.heap.size + 1) s vr vs ∧ RdS L i s)) (fun v4 _ => L.length - (intOf v4).toNat)
  case atStart => exact ⟨0, rfl, ⟨SM.fresh, _, _, H0.out, RdS.start L⟩⟩
  case round =>
    clear H0
    obtain ⟨i, rfl, hrel⟩ := hrel
    obtain ⟨s, vr, vs, hx, hs⟩ := hrel.out
    clear hrel
    have HX := Aside0.mk hx
    have HS := Aside0.mk hs
    clear hx hs
    by_cases hlt : i < L.length
    · have hiI : (i : Int) < (L.length : Int) := by omega
      obtain ⟨ad, rfl, hcl⟩ := (Kd.reads_of_C (d := (0 : Int)) (C_later HR.out HX.out.b)).2.2 (by omega)
      have hcl2 := hcl i hlt
      have hgd : (L.drop i).getD 0 0 = L.getD i 0 := by simp [List.getD_eq_getElem?_getD]
      clear hcl
      obtain ⟨A', hcut, hA, hC⟩ := print_drop_of (P := Tryd.prog) (Value.int .u8) 0 22 5 .i64 Tryd.underlying22 hi0 hsz (some ad) c L (i : Int) (by omega) (by omega) hc
      have hD := Aside0.mk (show ∀ W, Below w.heap.size w W → Kd.C (Kd.int .u8) W A' (L.drop i).length (L.drop i) from fun W hb => Kd.C_of_reads (h1 := fun _ => rfl) (hA _ (Kd.reads_of_C (C_later HR.out hb))))
      have hC' := Aside0.mk hC
      clear hA hC
      by_cases h27 : L.getD i 0 = 27
      · rw [h27] at hcl2
        have hne : L.drop i ≠ [] := by
          intro e
          have := congrArg List.length e
          simp at this
          omega
        have hle := nextS_le hne (hgd.trans h27)
        have hE := Aside0.mk (RdS.esc (s := s) (hgd.trans h27))
        have hES := Aside0.mk (RdS.escStop (s := s) (hgd.trans h27))
        have hT := Aside0.mk (fun N h1 => esc_str (N := N) hlt (hgd.trans h27) h1)
        have hN := Aside0.mk (ref_ok (L.drop i) (by rw [List.length_drop]; omega) 11000 (by rw [List.length_drop]; omega))
        rw [List.length_drop] at hle
        clear hgd h27 hne
        generalize nextL (L.drop i) = nx at *
        obtain ⟨kq, kz, NI, E⟩ := nx
        obtain ⟨N, rfl⟩ : ∃ N : Nat, NI = N := ⟨NI.toNat, by simp only at hle; omega⟩
        simp only at hle
        go_wp2_with (fail)
        have K1 := PNextR.whispererref09_Next.calls 11000 A' (c - i) (L.drop i) kq kz N E wr (hD.out _ HX.out.b) hC'.out hN.out
        rw [List.length_drop] at K1
        refine K1.mono ?_
        rintro e w1 ⟨rfl, hb1⟩
        have HX1 := Aside0.mk (HX.out.below hb1)
        clear K1 hN HX hD hC' hcut hcl2 hb1
        by_cases hE0 : E = 0
        · have hst := hE.out hE0
          subst hE0
          clear hES hE
          have hTN := Aside0.mk (hT.out N (by omega))
          obtain ⟨A2, hcut2, hA2, hC2⟩ := print_mid_of (P := Tryd.prog) (Value.int .u8) 0 22 5 .i64 .i64 Tryd.underlying22 hi0 hsz (some ad) c L ((i : Int) + 1) ((i : Int) + N) (by omega) (by omega) (by omega) hc
          have hR2 := Kd.C_of_reads (h1 := fun _ => rfl) (hA2 _ (Kd.reads_of_C (C_later HR.out HX1.out.b)))
          have hcv := fun (W : World) (hb : Below w1.heap.size w1 W) => Kd.C_string (P := Tryd.prog) (A := A2) (c := (c - ((i : Int) + 1).toNat)) Tryd.underlying22 Tryd.underlying5 Tryd.underlying9 (Kd.C_below hR2 hb)
          have hcw := hcv (w1.alloc (.cells #[.int .i64 kq, .int .i64 kz] 71)) ((Below.refl _ w1).alloc (Nat.le_refl _) _)
          have hl2 : ((L.take ((i : Int) + N).toNat).drop ((i : Int) + 1).toNat).length = i + N - (i + 1) := by rw [List.length_drop, List.length_take]; omega
          have hts : (strOfNums ((L.take ((i : Int) + N).toNat).drop ((i : Int) + 1).toNat)).size ≤ 100000 := by rw [strNums_size, hl2]; omega
          rw [hl2] at hcut2 hcw
          generalize hT0 : strOfNums ((L.take ((i : Int) + N).toNat).drop ((i : Int) + 1).toNat) = T at *
          rw [show ((i : Int) + 1).toNat = i + 1 by omega] at hcut2 hcw
          have hw1 : IntKind.i64.wrap ((i : Int) + 1) = (i : Int) + 1 := by unfold IntKind.wrap; simp [IntKind.bits]; omega
          have hw2 : IntKind.i64.wrap ((i : Int) + (N : Int)) = (i : Int) + (N : Int) := by unfold IntKind.wrap; simp [IntKind.bits]; omega
          have HX2 := Aside0.mk (HX1.out.below ((Below.refl _ w1).alloc (Nat.le_refl _) (.cells #[.int .i64 kq, .int .i64 kz] 71)))
          clear hA2 hC2 hR2 hcv hT hl2 hT0 HX1
          go_wp2_with (fail)
          refine (seeSeq w _ (w.heap.size + 1) s vr vs (1 + i) T _ HX2.out HS.out.fine (by omega) hts hTN.out).mono ?_
          rintro e w2 ⟨rfl, vr2, vs2, HX3⟩
          rw [Int.toNat_natCast] at hst
          have hwait := (odds_wait (s.seq (strOfNums ((L.drop i).take N)).data.toList) N).trans ((seq_wait s _).trans HS.out.wait)
          have hnx := Aside0.mk (HS.out.next hlt HB.out hst (by omega) hwait)
          have HX3 := Aside0.mk HX3
          have hodd := (seq_odd s (strOfNums ((L.drop i).take N)).data.toList).symm ▸ HS.out.fine.odd
          clear hst hwait hTN hts HX2 hcut2 hcw hw1
          generalize s.seq (strOfNums ((L.drop i).take N)).data.toList = p at *
          obtain ⟨s2, ok⟩ := p
          simp only at hodd
          cases ok
          · have m5 : w2.cell? ⟨w.heap.size + 1, 5, none⟩ = some (.int .i64 s2.odd) := (blk_cell HX3.out.me 5).trans rfl
            have f5 := blk_frozen HX3.out.me 5
            have hw3 : IntKind.i64.wrap ((s2.odd : Int) + (N : Int)) = (s2.odd : Int) + (N : Int) := by unfold IntKind.wrap; simp [IntKind.bits]; omega
            have HX4 := Aside0.mk (HX3.out.field (s' := { s2 with odd := s2.odd + N }) 5 (.int .i64 ((s2.odd : Int) + (N : Int))) rfl rfl)
            clear HX3
            go_wp2_with (fail)
            refine ⟨⟨i + N, by rw [Int.natCast_add], ⟨_, vr2, vs2, HX4.out, hnx.out⟩⟩, ?_⟩
            simp [intOf]
            omega
          · go_wp2_with (fail)
            refine ⟨⟨i + N, by rw [Int.natCast_add], ⟨_, vr2, vs2, HX3.out, hnx.out⟩⟩, ?_⟩
            simp [intOf]
            omega
        · have hEb : (E != 0) = true := by simpa using hE0
          have hfin := Aside0.mk (HS.out.stop hlt (hES.out hE0))
          have HX2 := Aside0.mk (HX1.out.below ((Below.refl _ w1).alloc (Nat.le_refl _) (.cells #[.int .i64 kq, .int .i64 kz] 71)))
          clear hES hE
          go_wp2_with (fail)
          go_ret
          refine ⟨_, vr, vs, rfl, ?_⟩
          rw [hfin.out]
          exact HX2.out
      · have h27b : (L.getD i 0 == 27) = false := by simpa using h27
        have hne : L.drop i ≠ [] := by
          intro e
          have := congrArg List.length e
          simp at this
          omega
        have hle := nxS_le hne
        have hmax := nxS_char hne (fun x hx => HB.out x (List.mem_of_mem_drop hx))
        have h27' : (L.drop i).getD 0 0 ≠ 27 := fun e => h27 (hgd.symm.trans e)
        have hE := Aside0.mk (RdS.chr (L := L) (i := i) (s := s) h27')
        have hES := Aside0.mk (RdS.chrStop (L := L) (i := i) (s := s) h27')
        have hN := Aside0.mk (fun (h1 : Kd.C (Kd.int .u8) wr A' (L.drop i).length (L.drop i)) (h2 : (L.drop i).length ≤ c - i) => next01_ok A' (c - i) (L.drop i) wr h1 h2 (fun x hx => HB.out x (List.mem_of_mem_drop hx)))
        rw [List.length_drop] at hle
        clear hgd h27 h27' hne
        generalize nxL (L.drop i) = nx at *
        generalize L.getD i 0 = b0 at *
        obtain ⟨C0, N, E⟩ := nx
        simp only at hle hmax
        go_wp2_with (fail)
        have K1 := hN.out (hD.out _ HX.out.b) hC'.out
        rw [List.length_drop] at K1
        refine K1.mono ?_
        rintro e w1 ⟨rfl, hb1⟩
        have HX1 := Aside0.mk (HX.out.below hb1)
        clear K1 hN HX hD hC' hcut hcl2 hb1
        have hw2 : IntKind.i64.wrap ((i : Int) + (N : Int)) = (i : Int) + (N : Int) := by unfold IntKind.wrap; simp [IntKind.bits]; omega
        by_cases hE7 : E = 7
        · have hfin := Aside0.mk (HS.out.stop hlt (hES.out hE7))
          subst hE7
          clear hES hE
          go_wp2_with (fail)
          go_ret
          refine ⟨_, vr, vs, rfl, ?_⟩
          rw [hfin.out]
          exact HX1.out
        · have hst := hE.out hE7
          have hE7b : (((E : Nat) : Int) == 7) = false := by simp; omega
          clear hES hE
          have hoddS := HS.out.fine.odd
          have hw3 : IntKind.i64.wrap ((s.odd : Int) + (N : Int)) = (s.odd : Int) + (N : Int) := by unfold IntKind.wrap; simp [IntKind.bits]; omega
          by_cases hE0 : E = 0
          · subst hE0
            rw [if_pos rfl] at hst
            by_cases hpr : prn (C0 : Int) = true
            · have hch : s.char (C0 : Int) = (s.show C0, true) := by unfold SM.char; rw [if_pos hpr]
              rw [hch] at hst
              have hnx := Aside0.mk (HS.out.next hlt HB.out hst (by omega) HS.out.wait)
              have hP := ref_prn (C0 : Int)
              rw [hpr] at hP
              clear hst hch
              go_wp2_with (fail)
              refine (PPrintableR.whispererref01_Printable.calls (C0 : Int) true _ hP).mono ?_
              rintro e w2 ⟨rfl, hd2⟩
              have HX2 := Aside0.mk (HX1.out.below hd2.below)
              clear hd2 HX1 hP
              go_wp2_with (fail)
              refine (seeChar w _ (w.heap.size + 1) s vr vs (C0 : Int) (1 + i) HX2.out HS.out.fine (by omega)).mono ?_
              rintro e w3 ⟨rfl, vr2, vs2, HX3⟩
              have HX3 := Aside0.mk HX3
              clear HX2
              go_wp2_with (fail)
              refine ⟨⟨i + N, by rw [Int.natCast_add], ⟨_, vr2, vs2, HX3.out, hnx.out⟩⟩, ?_⟩
              simp [intOf]
              omega
            · have hP := ref_prn (C0 : Int)
              rw [Bool.eq_false_iff.mpr hpr] at hP
              go_wp2_with (fail)
              refine (PPrintableR.whispererref01_Printable.calls (C0 : Int) false _ hP).mono ?_
              rintro e w2 ⟨rfl, hd2⟩
              have HX2 := Aside0.mk (HX1.out.below hd2.below)
              clear hd2 HX1 hP
              by_cases h13 : C0 = 13
              · have hb13 : ((C0 : Int) == 13) = true := by simp; omega
                have hch : s.char (C0 : Int) = ({ s with col := 0 }, true) := by unfold SM.char; rw [if_neg hpr, if_pos (by omega)]
                rw [hch] at hst
                have hnx := Aside0.mk (HS.out.next hlt HB.out hst (by omega) HS.out.wait)
                clear hst hch
                have mk : w2.cell? ⟨w.heap.size + 1, 2, none⟩ = some (.int .i64 s.col) := (blk_cell HX2.out.me 2).trans rfl
                have fk := blk_frozen HX2.out.me 2
                have HX3 := Aside0.mk (HX2.out.field (s' := { s with col := 0 }) 2 (.int .i64 0) rfl rfl)
                clear HX2
                go_wp2_with (fail)
                refine ⟨⟨i + N, by rw [Int.natCast_add], ⟨_, vr, vs, HX3.out, hnx.out⟩⟩, ?_⟩
                simp [intOf]
                omega
              · have hb13 : ((C0 : Int) == 13) = false := by simp; omega
                by_cases h10 : C0 = 10
                · have hb10 : ((C0 : Int) == 10) = true := by simp; omega
                  have hch : s.char (C0 : Int) = (s.line, true) := by unfold SM.char; rw [if_neg hpr, if_neg (by omega), if_pos (by omega)]
                  rw [hch] at hst
                  have hnx := Aside0.mk (HS.out.next hlt HB.out hst (by omega) HS.out.wait)
                  clear hst hch
                  have hrows := HS.out.fine.rows
                  have hrowF := HS.out.fine.row
                  have hw4 : IntKind.i64.wrap ((s.row : Int) + 1) = (s.row : Int) + 1 := by unfold IntKind.wrap; simp [IntKind.bits]; omega
                  have mk : w2.cell? ⟨w.heap.size + 1, 1, none⟩ = some (.int .i64 s.row) := (blk_cell HX2.out.me 1).trans rfl
                  have fk := blk_frozen HX2.out.me 1
                  have HX3 := Aside0.mk (HX2.out.field (s' := { s with row := s.row + 1 }) 1 (.int .i64 ((s.row : Int) + 1)) rfl rfl)
                  clear HX2
                  have hvn : vs.length = s.rows.length := HX3.out.n
                  obtain ⟨br, or_, cr, hvr, hcr, hcm, _, _, _⟩ := HX3.out.rs.form (by intro e; rw [e] at hvn; simp at hvn; omega)
                  subst hvr
                  by_cases hlast : s.row + 1 = s.rows.length
                  · have hlb : ((s.row : Int) + 1 == (vs.length : Int)) = true := by simp; omega
                    have hnl : s.line = { s with row := s.row + 1, rows := s.rows ++ [[]] } := by unfold SM.line; rw [if_pos hlast]
                    have g0 : (w2.setCell ⟨w.heap.size + 1, 1, none⟩ (.int .i64 ((s.row : Int) + 1))).cell? ⟨w.heap.size + 1, 0, none⟩ = some (.slice (some ⟨br, or_, none⟩) vs.length cr) := (blk_cell HX3.out.me 0).trans rfl
                    have g1 : (w2.setCell ⟨w.heap.size + 1, 1, none⟩ (.int .i64 ((s.row : Int) + 1))).cell? ⟨w.heap.size + 1, 1, none⟩ = some (.int .i64 ((s.row : Int) + 1)) := (blk_cell HX3.out.me 1).trans rfl
                    obtain ⟨j0, hj0, hz0, hz1, hz2⟩ := info_parts info_rowS
                    have hvl := Aside0.mk (show vs.length ≤ 10001 by omega)
                    have hlen : (vs ++ [Value.slice none 0 0]).length = vs.length + 1 := by simp
                    clear hvn hlast hrows hrowF
                    go_wp2_with (fail)
                    go_quiet (fail)
                    have HX4 := Aside0.mk (HX3.out.below (pw_below_drewN (Below.refl _ _) nq))
                    clear HX3 mk fk g0 g1
                    generalize ((w2.setCell ⟨w.heap.size + 1, 1, none⟩ (.int .i64 ((s.row : Int) + 1))).drewN nq) = W4 at *
                    have g0 : W4.cell? ⟨w.heap.size + 1, 0, none⟩ = some (.slice (some ⟨br, or_, none⟩) vs.length cr) := (blk_cell HX4.out.me 0).trans rfl
                    have HX5 := Aside0.mk (HX4.out.below ((Below.refl _ W4).alloc (Nat.le_refl _) (.cells #[.slice none 0 0] 33)))
                    have hblk := Aside0.mk (heap_alloc_new W4 (.cells #[.slice none 0 0] 33))
                    go_wp2_with (at_builtin; refine wpList_append_irow _ rfl _ _ 67 67 rfl 33 j0 (.slice none 0 0) 24 Tryd.underlying67 hj0 hz0 hz1 hz2 rfl rfl HX5.out.rs rfl 1 [.slice none 0 0] (Src.ofSlice _ Tryd.underlying67 ⟨W4.heap.size, 0, none⟩ 1 1 [.slice none 0 0] rfl (fun j u hj => by
                      match j, hj with
                      | 0, hj => injection hj with hj; subst hj; exact (blk_cell hblk.out 0).trans rfl
                      | j + 1, hj => simp at hj) (by simp [Value.oneCell'])) (by have := hvl.out; unfold maxLen; omega) (by have := hvl.out; omega) ?_; intro v' w5 hown hgr hbl; obtain ⟨A3, c3, hv3, _, _⟩ := hown.slice; rw [hlen] at hv3; subst hv3; have HF := HX5.out.lineFacts hgr; have f6 := HF.1; have f7 := HF.2; have HL := Aside0.mk (HX5.out.line hgr hown hbl); clear HF hown hgr hbl)
                    refine ⟨⟨i + N, by rw [Int.natCast_add], ⟨s.line, _, _, by rw [hnl]; exact HL.out, hnx.out⟩⟩, ?_⟩
                    simp [intOf]
                    omega
                  · have hlb : ((s.row : Int) + 1 == (vs.length : Int)) = false := by simp; omega
                    have hnl : s.line = { s with row := s.row + 1 } := by unfold SM.line; rw [if_neg hlast]
                    have g0 : (w2.setCell ⟨w.heap.size + 1, 1, none⟩ (.int .i64 ((s.row : Int) + 1))).cell? ⟨w.heap.size + 1, 0, none⟩ = some (.slice (some ⟨br, or_, none⟩) vs.length cr) := (blk_cell HX3.out.me 0).trans rfl
                    have g1 : (w2.setCell ⟨w.heap.size + 1, 1, none⟩ (.int .i64 ((s.row : Int) + 1))).cell? ⟨w.heap.size + 1, 1, none⟩ = some (.int .i64 ((s.row : Int) + 1)) := (blk_cell HX3.out.me 1).trans rfl
                    clear hvn hlast hrows hrowF
                    go_wp2_with (fail)
                    go_quiet (fail)
                    have HX4 := Aside0.mk (HX3.out.below (pw_below_drewN (Below.refl _ _) nq))
                    clear HX3 mk fk g0 g1
                    go_wp2_with (fail)
                    refine ⟨⟨i + N, by rw [Int.natCast_add], ⟨s.line, _, _, by rw [hnl]; exact HX4.out, hnx.out⟩⟩, ?_⟩
                    simp [intOf]
                    omega
                · have hb10 : ((C0 : Int) == 10) = false := by simp; omega
                  by_cases h7 : C0 = 7
                  · have hb7 : ((C0 : Int) == 7) = true := by simp; omega
                    have hch : s.char (C0 : Int) = ({ s with bells := s.bells + 1 }, true) := by unfold SM.char; rw [if_neg hpr, if_neg (by omega), if_neg (by omega), if_pos (by omega)]
                    rw [hch] at hst
                    have hnx := Aside0.mk (HS.out.next hlt HB.out hst (by omega) HS.out.wait)
                    clear hst hch
                    have hbells := HS.out.fine.bells
                    have hw4 : IntKind.i64.wrap ((s.bells : Int) + 1) = (s.bells : Int) + 1 := by unfold IntKind.wrap; simp [IntKind.bits]; omega
                    have mk : w2.cell? ⟨w.heap.size + 1, 3, none⟩ = some (.int .i64 s.bells) := (blk_cell HX2.out.me 3).trans rfl
                    have fk := blk_frozen HX2.out.me 3
                    have HX3 := Aside0.mk (HX2.out.field (s' := { s with bells := s.bells + 1 }) 3 (.int .i64 ((s.bells : Int) + 1)) rfl rfl)
                    clear HX2
                    go_wp2_with (fail)
                    refine ⟨⟨i + N, by rw [Int.natCast_add], ⟨_, vr, vs, HX3.out, hnx.out⟩⟩, ?_⟩
                    simp [intOf]
                    omega
                  · have hb7 : ((C0 : Int) == 7) = false := by simp; omega
                    have hch : s.char (C0 : Int) = (s, false) := by unfold SM.char; rw [if_neg hpr, if_neg (by omega), if_neg (by omega), if_neg (by omega)]
                    rw [hch] at hst
                    have hnx := Aside0.mk (HS.out.next hlt HB.out hst (by omega) HS.out.wait)
                    clear hst hch
                    have mk : w2.cell? ⟨w.heap.size + 1, 5, none⟩ = some (.int .i64 s.odd) := (blk_cell HX2.out.me 5).trans rfl
                    have fk := blk_frozen HX2.out.me 5
                    have HX3 := Aside0.mk (HX2.out.field (s' := { s with odd := s.odd + N }) 5 (.int .i64 ((s.odd : Int) + (N : Int))) rfl rfl)
                    clear HX2
                    go_wp2_with (fail)
                    refine ⟨⟨i + N, by rw [Int.natCast_add], ⟨_, vr, vs, HX3.out, hnx.out⟩⟩, ?_⟩
                    simp [intOf]
                    omega
          · rw [if_neg hE0] at hst
            have hE0b : (((E : Nat) : Int) == 0) = false := by simp; omega
            have hnx := Aside0.mk (HS.out.next hlt HB.out hst (by omega) HS.out.wait)
            have m5 : w1.cell? ⟨w.heap.size + 1, 5, none⟩ = some (.int .i64 s.odd) := (blk_cell HX1.out.me 5).trans rfl
            have f5 := blk_frozen HX1.out.me 5
            have HX4 := Aside0.mk (HX1.out.field (s' := { s with odd := s.odd + N }) 5 (.int .i64 ((s.odd : Int) + (N : Int))) rfl rfl)
            clear HX1 hst
            go_wp2_with (fail)
            refine ⟨⟨i + N, by rw [Int.natCast_add], ⟨_, vr, vs, HX4.out, hnx.out⟩⟩, ?_⟩
            simp [intOf]
            omega
    · have hiI : (L.length : Int) ≤ (i : Int) := by omega
      have hE : i = L.length := by have := HS.out.le; omega
      subst hE
      go_wp2_with (fail)
      go_ret
      have e := HS.out.done
      refine ⟨_, vr, vs, rfl, ?_⟩
      rw [e, show s.put [] = s by rw [← HS.out.wait]; exact put_same s]
      exact HX.out
end Go.Proofs.YtmdeehblmkpddaaDoor.Hand
