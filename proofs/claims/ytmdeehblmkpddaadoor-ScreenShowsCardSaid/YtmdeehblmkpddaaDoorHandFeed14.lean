/- (*screen.Screen).next. -/
import Derived.Test.YtmdeehblmkpddaaDoorHandScr14
import Derived.Test.YtmdeehblmkpddaaDoorHandNext
import Derived.Test.YtmdeehblmkpddaaDoorHandEscNextAll
import Derived.LoopTactic
import Derived.Laws.Cover4
namespace Go.Proofs.YtmdeehblmkpddaaDoor.Hand
open Go.RowKit Go.Proofs.YtmdeehblmkpddaaDoorW.PrintWords Go.Proofs.YtmdeehblmkpddaaDoorW.PrintLast
set_option linter.unusedVariables false
set_option linter.unusedSimpArgs false
def SM.odds (p : SM × Bool) (n : Nat) : SM := if p.2 = true then p.1 else { p.1 with odd := p.1.odd + n }
/-- What waits first, done if it is whole; how many bytes that were. -/
def SM.step (s : SM) : SM × Nat :=
  if s.wait.getD 0 0 = 27 then
    (if (nextL s.wait).2.2.2 ≠ 0 then (s, 0) else (SM.odds (s.seq (strOfNums (s.wait.take (nextL s.wait).2.2.1.toNat)).data.toList) (nextL s.wait).2.2.1.toNat, (nextL s.wait).2.2.1.toNat))
  else
    (if (nxL s.wait).2.2 = 7 then (s, 0) else (SM.odds (if (nxL s.wait).2.2 = 0 then s.char ((nxL s.wait).1 : Nat) else (s, false)) (nxL s.wait).2.1, (nxL s.wait).2.1))
theorem nextGo_le (l : List Int) (h0 : 1 ≤ l.length) : ∀ (d i : Nat) (o : Bool), 1 ≤ i → (d = 0 ∨ i + d ≤ l.length) → 1 ≤ (nextGo l d i o).2.2.1 ∧ (nextGo l d i o).2.2.1 ≤ l.length
  | 0, i, o, _, _ => by
    show (1 : Int) ≤ (l.length : Int) ∧ (l.length : Int) ≤ l.length
    omega
  | d + 1, i, o, hi, hd => by
    rw [nextGo_succ]
    split
    · simp only; omega
    · split
      · simp only; omega
      · split
        · exact nextGo_le l h0 d (i + 1) o (by omega) (by omega)
        · split
          · exact nextGo_le l h0 d (i + 1) true (by omega) (by omega)
          · simp only; omega
theorem nextS_le {l : List Int} (h : l ≠ []) (h27 : l.getD 0 0 = 27) : 1 ≤ (nextL l).2.2.1 ∧ (nextL l).2.2.1 ≤ l.length := by
  have h0 : 1 ≤ l.length := List.length_pos_iff.2 h
  unfold nextL
  rw [if_neg (by omega), if_neg (by rw [h27]; decide)]
  split
  · simp only; omega
  · exact nextGo_le l h0 _ 2 false (by omega) (by omega)
theorem nxS_le {l : List Int} (h : l ≠ []) : 1 ≤ (nxL l).2.1 ∧ (nxL l).2.1 ≤ l.length := by
  have nx_le : ∀ (n b0 b1 b2 b3 : Nat), 1 ≤ n → 1 ≤ (nx n b0 b1 b2 b3).2.1 ∧ (nx n b0 b1 b2 b3).2.1 ≤ n := by
    intro n b0 b1 b2 b3 hn
    unfold nx
    repeat' split
    all_goals (simp only; omega)
  unfold nxL
  rw [if_neg h]
  exact nx_le _ _ _ _ _ (List.length_pos_iff.2 h)
theorem nxS_char {l : List Int} (h : l ≠ []) (hb : ∀ x ∈ l, 0 ≤ x ∧ x ≤ 255) : (nxL l).1 ≤ 1114111 := by
  unfold nxL
  rw [if_neg h]
  have a0 := at0_lt hb 0
  have a1 := at0_lt hb 1
  have a2 := at0_lt hb 2
  have a3 := at0_lt hb 3
  have q : at0 l 0 = 244 → nhi (at0 l 0) = 143 := fun e => by rw [e]; decide
  have q2 : at0 l 0 = 244 → nlo (at0 l 0) = 128 := fun e => by rw [e]; decide
  unfold nx
  repeat' split
  all_goals (simp only; omega)
theorem C_of_irow {w : World} {A : Option Addr} {c : Nat} {l : List Int} (h : IRow w (.slice A l.length c) (l.map (.int .u8))) : Kd.C (Kd.int .u8) w A l.length l := by
  refine Kd.C_of_reads (d := (0 : Int)) ⟨rfl, ?_, fun hn => ?_⟩
  · obtain ⟨A', c', e, h1, h2⟩ := h.slice
    rw [List.length_map] at h1
    have : maxLen ≤ 9223372036854775807 := by unfold maxLen; omega
    omega
  · obtain ⟨b, off, cap, e, h1, h2, h3, h4, h5⟩ := h.form (by intro e; rw [List.map_eq_nil_iff] at e; rw [e] at hn; exact absurd hn (by decide))
    injection e with e1 e2 e3
    refine ⟨_, e1, fun j hj => ?_⟩
    rw [Addr.add_mid]
    refine h4 j _ ?_
    rw [List.getElem?_map, List.getElem?_eq_getElem hj]
    simp [List.getD_eq_getElem?_getD, List.getElem?_eq_getElem hj]
theorem nextU_calls (A : Option Addr) (c : Nat) (l : List Int) (w : World) (hr : Kd.C (Kd.int .u8) w A l.length l) (hc : l.length ≤ c) (HU : U8In w) (hb : ∀ x ∈ l, 0 ≤ x ∧ x ≤ 255) :
    Calls Tryd.prog 50 #[.slice A l.length c] w fun e w' => e = .returned (.tuple #[.int .i64 ((nxL l).1 : Int), .int .i64 ((nxL l).2.1 : Int), .int .i64 ((nxL l).2.2 : Int)]) ∧ Below w.heap.size w w' :=
  PNext.utf_Next.calls 9 A c l _ _ _ w hr hc HU (next_f 9 (by omega) l hb)
theorem seq_odd (s : SM) (t : List UInt8) : (s.seq t).1.odd = s.odd := by
  unfold SM.seq
  repeat' split
  all_goals rfl
theorem char_odd (s : SM) (c : Int) : (s.char c).1.odd = s.odd := by
  unfold SM.char
  repeat' split
  all_goals rfl
set_option maxRecDepth 100000 in
theorem conv_irow {w : World} {b off c : Nat} {l : List Int} (h : IRow w (.slice (some ⟨b, off, none⟩) l.length c) (l.map (.int .u8))) (k c' : Nat) (hk : k ≤ l.length) (h0 : l ≠ []) :
    (Go.convert 22 9 (.slice (some ⟨b, off, none⟩) k c')).run Tryd.prog w = .ok (.string (strOfNums (l.take k))) w := by
  obtain ⟨b', off', cap, e, h1, h2, h3, h4, h5⟩ := h.form (by intro e; rw [List.map_eq_nil_iff] at e; exact h0 e)
  injection e with e1 e2 e3
  injection e1 with e1
  injection e1 with e1 e4
  subst e1; subst e4
  have hall : ∀ i, i < k → w.cell? ⟨b, off + i, none⟩ = some (.int .u8 ((l.take k).getD i 0)) := fun i hi => by
    have hi' : i < l.length := by omega
    rw [h4 i (.int .u8 (l[i]'hi')) (by rw [List.getElem?_map, List.getElem?_eq_getElem hi']; rfl)]
    simp [List.getD_eq_getElem?_getD, List.getElem?_take, hi, List.getElem?_eq_getElem hi']
  have hlen : (l.take k).length = k := by rw [List.length_take]; omega
  clear h h1 h2 h3 h4 h5
  generalize l.take k = q at *
  exact run_convert_bytes_arg w 22 5 Tryd.underlying22 Tryd.underlying5 b off k c' q hlen hall 9 Tryd.underlying9

set_option maxHeartbeats 4000000 in
set_option maxRecDepth 100000 in
theorem next_esc (w : World) (g : Nat) (s : SM) (F : Nat → Prop) (n : Nat) (h : Scr w g s F) (hf : s.Fine n) (hn : n ≤ 100000) (hw : s.wait ≠ []) (h27 : s.wait.getD 0 0 = 27) (HT : TabN w) :
    Calls Tryd.prog 34 #[.pointer (some ⟨g, 0, none⟩)] w fun e w' => e = .returned (.int .i64 s.step.2) ∧ Scr w' g s.step.1 (Fnew F w w') ∧ Mod F w w' := by
  obtain ⟨vr, vw, vs, who, hx⟩ := id h
  obtain ⟨b, off, cap, rfl, h1, h2, h3, h4, h5⟩ := hx.wt.form (by intro e; rw [List.map_eq_nil_iff] at e; exact hw e)
  have hl := hx.lt
  have hwn := hf.wait
  have hodd := hf.odd
  have m3 : w.cell? ⟨g, 3, none⟩ = some (.slice (some ⟨b, off, none⟩) s.wait.length cap) := by
    have := (blk_cell hx.me 3).trans rfl
    rw [List.length_map] at this
    exact this
  have hpos : 0 < s.wait.length := List.length_pos_iff.2 hw
  have c0 : w.cell? ⟨b, off, none⟩ = some (.int .u8 27) := by
    have := h4 0 (.int .u8 27) (by
      rw [List.getElem?_map, List.getElem?_eq_getElem hpos]
      rw [List.getD_eq_getElem?_getD, List.getElem?_eq_getElem hpos] at h27
      simp at h27
      simp [h27])
    exact this
  have hwt := hx.wt
  rw [List.length_map] at hwt h1 hx
  have hC := C_of_irow hwt
  have hN := escseq_Next.calls (some ⟨b, off, none⟩) cap s.wait (nextL s.wait).1 (nextL s.wait).2.1 (nextL s.wait).2.2.1 (nextL s.wait).2.2.2 w hC h1 rfl
  obtain ⟨k1, k2⟩ := nextS_le hw h27
  have hst : Aside0 (s.step = if (nextL s.wait).2.2.2 ≠ 0 then (s, 0) else (SM.odds (s.seq (strOfNums (s.wait.take (nextL s.wait).2.2.1.toNat)).data.toList) (nextL s.wait).2.2.1.toNat, (nextL s.wait).2.2.1.toNat)) := ⟨by
    unfold SM.step
    rw [if_pos h27]⟩
  obtain ⟨K, hK⟩ : ∃ K : Nat, (nextL s.wait).2.2.1 = (K : Int) := ⟨_, (Int.toNat_of_nonneg (by omega)).symm⟩
  rw [hK] at k1 k2 hN hst
  generalize (nextL s.wait).2.2.2 = r4 at *
  generalize (nextL s.wait).2.1 = r2 at *
  generalize (nextL s.wait).1 = r1 at *
  rw [Int.toNat_natCast] at hst
  have hxA := Aside0.mk hx
  have hwA := Aside0.mk hwt
  clear hx hC h2 h3 h4 h5 hwt hK
  go_enter Tryd.func34, Tryd.ntmps34
  go_wp2_with (fail)
  refine hN.mono ?_
  rintro e w1 ⟨rfl, hb⟩
  have hx1 := Aside0.mk (hxA.out.below (fun k hk => hb.block k (hxA.out.lt k hk)) hb.size)
  have hbA := Aside0.mk hb
  have hT1 := HT.below hb
  clear hN hb m3 c0
  by_cases h0 : r4 = 0
  · subst h0
    have hW : Aside0 (ScrX none (w1.alloc (.cells #[.int .i64 r1, .int .i64 r2] 71)) g s vr (.slice (some ⟨b, off, none⟩) s.wait.length cap) vs who F) := ⟨hx1.out.below (fun k hk => heap_alloc_old w1 _ (hx1.out.lt k hk)) (by simp)⟩
    have hbW := Aside0.mk (hbA.out.alloc (Nat.le_trans (Nat.le_refl _) hbA.out.size) (.cells #[.int .i64 r1, .int .i64 r2] 71))
    have hTW := hT1.below ((Below.refl w1.heap.size w1).alloc (Nat.le_refl _) (.cells #[.int .i64 r1, .int .i64 r2] 71))
    have m3 : (w1.alloc (.cells #[.int .i64 r1, .int .i64 r2] 71)).cell? ⟨g, 3, none⟩ = some (.slice (some ⟨b, off, none⟩) s.wait.length cap) := (blk_cell hW.out.me 3).trans rfl
    have hcv : (Go.convert 22 9 (.slice (some ⟨b, off, none⟩) K cap)).run Tryd.prog (w1.alloc (.cells #[.int .i64 r1, .int .i64 r2] 71)) = .ok (.string (strOfNums (s.wait.take K))) (w1.alloc (.cells #[.int .i64 r1, .int .i64 r2] 71)) := conv_irow hW.out.wt K cap (by omega) hw
    have hKc : K ≤ cap := by omega
    have hst2 := Aside0.mk (hst.out.trans (if_neg (fun q => q rfl)))
    have hts : (strOfNums (s.wait.take K)).size ≤ 100000 := by rw [strOfNums_size, List.length_take]; omega
    have hSQ := seq_ok (w1.alloc (.cells #[.int .i64 r1, .int .i64 r2] 71)) g s F n (strOfNums (s.wait.take K)) ⟨_, _, _, _, hW.out⟩ hf (by omega) hts hTW
    have hq := seq_odd s (strOfNums (s.wait.take K)).data.toList
    clear hx1 hbA hst
    generalize strOfNums (s.wait.take K) = t at *
    obtain ⟨S2, B, hSB⟩ : ∃ S2 B, s.seq t.data.toList = (S2, B) := ⟨_, _, rfl⟩
    rw [hSB] at hSQ hst2 hq
    clear hf hwA hxA
    go_wp2_with (fail)
    refine hSQ.mono ?_
    rintro e w2 ⟨rfl, hs2, hm2⟩
    have hb2 : Mod F w w2 := (Mod.ofBelow (F := F) hbW.out).trans hm2 (fun _ _ h => h)
    have hs3 := hs2.onto (w := w) hbW.out.size hl hb2.size
    clear hSQ hs2 hm2 m3 hcv
    replace hq : S2.odd ≤ n := Nat.le_trans (Nat.le_of_eq hq) hodd
    cases B
    · obtain ⟨vr', vw', vs', who', hx'⟩ := hs3
      have p6 : w2.cell? ⟨g, 6, none⟩ = some (.int .i64 S2.odd) := (blk_cell hx'.me 6).trans rfl
      have f6 := blk_frozen hx'.me 6
      have hfi := hx'.field (s' := { S2 with odd := S2.odd + K }) 6 (.int .i64 ((S2.odd : Int) + (K : Int))) rfl rfl rfl
      have m6 := hb2.trans (Mod.ofSet (F := Fnew F w w2) w2 g 6 (.int .i64 ((S2.odd : Int) + (K : Int))) hx'.fg) (fun k hk h => h.elim id (fun h => by omega))
      have hfin := Aside0.mk (And.intro (show Scr _ g { S2 with odd := S2.odd + K } _ from ⟨_, _, _, _, hfi.wider (F' := Fnew F w (w2.setCell ⟨g, 6, none⟩ (.int .i64 ((S2.odd : Int) + (K : Int))))) (fun b hb => hb.elim .inl (fun h => .inr ⟨h.1, by simpa using h.2⟩)) (Fnew_id hl m6.size)⟩) m6)
      clear hx' hfi m6 hb2
      go_wp2_with (fail)
      go_ret
      exact ⟨by rw [hst2.out]; rfl, by rw [hst2.out]; exact hfin.out.1, hfin.out.2⟩
    · have hfin := Aside0.mk (And.intro hs3 hb2)
      clear hs3 hb2
      go_wp2_with (fail)
      go_ret
      exact ⟨by rw [hst2.out]; rfl, by rw [hst2.out]; exact hfin.out.1, hfin.out.2⟩
  · have hfin := Aside0.mk (And.intro (Scr.after ⟨_, _, vs, who, hx1.out.below (W := w1.alloc (.cells #[.int .i64 r1, .int .i64 r2] 71)) (fun k hk => heap_alloc_old w1 _ (hx1.out.lt k hk)) (by simp)⟩ (hbA.out.alloc (Nat.le_trans (Nat.le_refl _) hbA.out.size) (.cells #[.int .i64 r1, .int .i64 r2] 71)).size hl) (Mod.ofBelow (F := F) (hbA.out.alloc (Nat.le_trans (Nat.le_refl _) hbA.out.size) (.cells #[.int .i64 r1, .int .i64 r2] 71))))
    have hst2 := hst.out.trans (if_pos h0)
    clear hx1 hbA hst
    go_wp2_with (fail)
    go_ret
    exact ⟨by rw [hst2]; rfl, by rw [hst2]; exact hfin.out.1, hfin.out.2⟩

set_option maxHeartbeats 4000000 in
set_option maxRecDepth 100000 in
theorem next_utf (w : World) (g : Nat) (s : SM) (F : Nat → Prop) (n : Nat) (h : Scr w g s F) (hf : s.Fine n) (hn : n ≤ 100000) (hw : s.wait ≠ []) (h27 : s.wait.getD 0 0 ≠ 27) (HU : U8In w) :
    Calls Tryd.prog 34 #[.pointer (some ⟨g, 0, none⟩)] w fun e w' => e = .returned (.int .i64 s.step.2) ∧ Scr w' g s.step.1 (Fnew F w w') ∧ Mod F w w' := by
  obtain ⟨vr, vw, vs, who, hx⟩ := id h
  obtain ⟨b, off, cap, rfl, h1, h2, h3, h4, h5⟩ := hx.wt.form (by intro e; rw [List.map_eq_nil_iff] at e; exact hw e)
  have hl := hx.lt
  have hwn := hf.wait
  have hodd := hf.odd
  have m3 : w.cell? ⟨g, 3, none⟩ = some (.slice (some ⟨b, off, none⟩) s.wait.length cap) := by
    have := (blk_cell hx.me 3).trans rfl
    rw [List.length_map] at this
    exact this
  have hpos : 0 < s.wait.length := List.length_pos_iff.2 hw
  have c0 : w.cell? ⟨b, off, none⟩ = some (.int .u8 (s.wait.getD 0 0)) := by
    have := h4 0 (.int .u8 (s.wait.getD 0 0)) (by
      rw [List.getElem?_map, List.getElem?_eq_getElem hpos]
      simp [List.getD_eq_getElem?_getD, List.getElem?_eq_getElem hpos])
    exact this
  have hwt := hx.wt
  rw [List.length_map] at hwt h1 hx
  have hC := C_of_irow hwt
  have hN := nextU_calls (some ⟨b, off, none⟩) cap s.wait w hC h1 HU hf.bytes
  obtain ⟨k1, k2⟩ := nxS_le hw
  have hch := nxS_char hw hf.bytes
  have hst : Aside0 (s.step = if (nxL s.wait).2.2 = 7 then (s, 0) else (SM.odds (if (nxL s.wait).2.2 = 0 then s.char ((nxL s.wait).1 : Nat) else (s, false)) (nxL s.wait).2.1, (nxL s.wait).2.1)) := ⟨by
    unfold SM.step
    rw [if_neg h27]⟩
  generalize (nxL s.wait).2.2 = r3 at *
  generalize (nxL s.wait).2.1 = K at *
  generalize (nxL s.wait).1 = c at *
  generalize s.wait.getD 0 0 = x0 at *
  have hxA := Aside0.mk hx
  clear hx hC h2 h3 h4 h5 hwt
  go_enter Tryd.func34, Tryd.ntmps34
  go_wp2_with (fail)
  refine hN.mono ?_
  rintro e w1 ⟨rfl, hb⟩
  have hx1 := Aside0.mk (hxA.out.below (fun k hk => hb.block k (hxA.out.lt k hk)) hb.size)
  have hbA := Aside0.mk hb
  clear hN hb m3 c0
  by_cases h7 : r3 = 7
  · subst h7
    have hfin := Aside0.mk (And.intro (Scr.after ⟨_, _, vs, who, hx1.out⟩ hbA.out.size hl) (Mod.ofBelow (F := F) hbA.out))
    have hst2 := hst.out.trans (if_pos rfl)
    clear hx1 hbA hst
    go_wp2_with (fail)
    go_ret
    exact ⟨by rw [hst2]; rfl, by rw [hst2]; exact hfin.out.1, hfin.out.2⟩
  · have hst2 := Aside0.mk (hst.out.trans (if_neg h7))
    by_cases h0 : r3 = 0
    · subst h0
      rw [if_pos rfl] at hst2
      have hSQ := char_ok w1 g s F n c ⟨_, _, _, _, hx1.out⟩ hf (by omega) (by omega) (by omega)
      have hq := char_odd s (c : Int)
      obtain ⟨S2, B, hSB⟩ : ∃ S2 B, s.char (c : Int) = (S2, B) := ⟨_, _, rfl⟩
      rw [hSB] at hSQ hst2 hq
      clear hf hxA hx1 hst
      go_wp2_with (fail)
      refine hSQ.mono ?_
      rintro e w2 ⟨rfl, hs2, hm2⟩
      have hb2 : Mod F w w2 := (Mod.ofBelow (F := F) hbA.out).trans hm2 (fun _ _ h => h)
      have hs3 := hs2.onto (w := w) hbA.out.size hl hb2.size
      clear hSQ hs2 hm2
      replace hq : S2.odd ≤ n := Nat.le_trans (Nat.le_of_eq hq) hodd
      cases B
      · obtain ⟨vr', vw', vs', who', hx'⟩ := hs3
        have p6 : w2.cell? ⟨g, 6, none⟩ = some (.int .i64 S2.odd) := (blk_cell hx'.me 6).trans rfl
        have f6 := blk_frozen hx'.me 6
        have hfi := hx'.field (s' := { S2 with odd := S2.odd + K }) 6 (.int .i64 ((S2.odd : Int) + (K : Int))) rfl rfl rfl
        have m6 := hb2.trans (Mod.ofSet (F := Fnew F w w2) w2 g 6 (.int .i64 ((S2.odd : Int) + (K : Int))) hx'.fg) (fun k hk h => h.elim id (fun h => by omega))
        have hfin := Aside0.mk (And.intro (show Scr _ g { S2 with odd := S2.odd + K } _ from ⟨_, _, _, _, hfi.wider (F' := Fnew F w (w2.setCell ⟨g, 6, none⟩ (.int .i64 ((S2.odd : Int) + (K : Int))))) (fun b hb => hb.elim .inl (fun h => .inr ⟨h.1, by simpa using h.2⟩)) (Fnew_id hl m6.size)⟩) m6)
        clear hx' hfi m6 hb2
        go_wp2_with (fail)
        go_ret
        exact ⟨by rw [hst2.out]; rfl, by rw [hst2.out]; exact hfin.out.1, hfin.out.2⟩
      · have hfin := Aside0.mk (And.intro hs3 hb2)
        clear hs3 hb2
        go_wp2_with (fail)
        go_ret
        exact ⟨by rw [hst2.out]; rfl, by rw [hst2.out]; exact hfin.out.1, hfin.out.2⟩
    · rw [if_neg h0] at hst2
      have p6 : w1.cell? ⟨g, 6, none⟩ = some (.int .i64 s.odd) := (blk_cell hx1.out.me 6).trans rfl
      have f6 := blk_frozen hx1.out.me 6
      have hfin := Aside0.mk (Scr.field (W := w) (s' := { s with odd := s.odd + K }) hx1.out (Mod.ofBelow (F := F) hbA.out) 6 (.int .i64 ((s.odd : Int) + (K : Int))) rfl rfl rfl hl)
      clear hf hxA hx1 hst
      go_wp2_with (fail)
      go_ret
      exact ⟨by rw [hst2.out]; rfl, by rw [hst2.out]; exact hfin.out.1, hfin.out.2⟩
theorem nextS_ok (w : World) (g : Nat) (s : SM) (F : Nat → Prop) (n : Nat) (h : Scr w g s F) (hf : s.Fine n) (hn : n ≤ 100000) (hw : s.wait ≠ []) (HT : TabN w) (HU : U8In w) :
    Calls Tryd.prog 34 #[.pointer (some ⟨g, 0, none⟩)] w fun e w' => e = .returned (.int .i64 s.step.2) ∧ Scr w' g s.step.1 (Fnew F w w') ∧ Mod F w w' := by
  by_cases h27 : s.wait.getD 0 0 = 27
  · exact next_esc w g s F n h hf hn hw h27 HT
  · exact next_utf w g s F n h hf hn hw h27 HU
end Go.Proofs.YtmdeehblmkpddaaDoor.Hand

namespace Go.Proofs.YtmdeehblmkpddaaDoor.Hand
open Go.RowKit
set_option linter.unusedVariables false
set_option linter.unusedSimpArgs false
def SM.run : Nat → SM → SM
  | 0, s => s
  | k + 1, s => if s.wait = [] then s else if s.step.2 = 0 then s.step.1 else SM.run k { s.step.1 with wait := s.step.1.wait.drop s.step.2 }
theorem SM.run_succ (k : Nat) (s : SM) : SM.run (k + 1) s = if s.wait = [] then s else if s.step.2 = 0 then s.step.1 else SM.run k { s.step.1 with wait := s.step.1.wait.drop s.step.2 } := rfl
def SM.feed (s : SM) (b : List Int) : SM := SM.run (s.wait.length + b.length) { s with wait := s.wait ++ b }

theorem cut_wait (s : SM) : s.cut.wait = s.wait := rfl
theorem seq_wait (s : SM) (t : List UInt8) : (s.seq t).1.wait = s.wait := by
  unfold SM.seq
  repeat' split
  all_goals rfl
theorem char_wait (s : SM) (c : Int) : (s.char c).1.wait = s.wait := by
  unfold SM.char
  repeat' split
  all_goals rfl
theorem odds_wait (p : SM × Bool) (n : Nat) : (SM.odds p n).wait = p.1.wait := by unfold SM.odds; split <;> rfl
theorem step_wait (s : SM) : s.step.1.wait = s.wait := by
  unfold SM.step
  split
  · split
    · rfl
    · show (SM.odds _ _).wait = _
      rw [odds_wait, seq_wait]
  · split
    · rfl
    · show (SM.odds _ _).wait = _
      rw [odds_wait]
      split
      · exact char_wait s _
      · rfl
theorem SM.Fine.up {s : SM} {n m : Nat} (h : s.Fine n) (hm : n ≤ m) : s.Fine m :=
  ⟨Nat.le_trans h.rows hm, h.row, Nat.le_trans h.col hm, fun l hl => Nat.le_trans (h.len l hl) hm, Nat.le_trans h.wait hm, Nat.le_trans h.bells hm, Nat.le_trans h.odd hm, h.runes, h.bytes⟩
theorem SM.Fine.rowMem {s : SM} {n : Nat} (h : s.Fine n) : s.rowOf ∈ s.rows := by
  unfold SM.rowOf
  rw [List.getD_eq_getElem?_getD, List.getElem?_eq_getElem h.row]
  exact List.getElem_mem h.row
theorem mem_set {α : Type} {l : List α} {i : Nat} {a x : α} (h : x ∈ l.set i a) : x ∈ l ∨ x = a := List.mem_or_eq_of_mem_set h
theorem showL_mem {l : List Int} {col : Nat} {c x : Int} (h : x ∈ showL l col c) : x ∈ l ∨ x = 32 ∨ x = c := by
  unfold showL at h
  rcases mem_set h with h | h
  · rcases List.mem_append.1 h with h | h
    · exact .inl h
    · exact .inr (.inl (List.mem_replicate.1 h).2)
  · exact .inr (.inr h)
theorem showL_length (l : List Int) (col : Nat) (c : Int) : (showL l col c).length = max l.length (col + 1) := by
  unfold showL
  rw [List.length_set, List.length_append, List.length_replicate]
  omega
theorem show_fine {s : SM} {n : Nat} (h : s.Fine n) (c : Int) (h0 : 0 ≤ c) (h1 : c ≤ 1114111) : (s.show c).Fine (n + 1) := by
  have hr := h.len _ h.rowMem
  have hrr := h.runes _ h.rowMem
  refine ⟨?_, ?_, ?_, fun l hl => ?_, ?_, ?_, ?_, fun l hl x hx => ?_, h.bytes⟩
  · show (s.rows.set _ _).length ≤ _
    rw [List.length_set]; have := h.rows; omega
  · show s.row < (s.rows.set _ _).length
    rw [List.length_set]; exact h.row
  · have := h.col
    show s.col + 1 ≤ n + 1
    omega
  · rcases mem_set hl with hl | rfl
    · have := h.len l hl; omega
    · rw [showL_length]; have := h.col; omega
  · have := h.wait; show s.wait.length ≤ _; omega
  · have := h.bells; show s.bells ≤ _; omega
  · have := h.odd; show s.odd ≤ _; omega
  · rcases mem_set hl with hl | rfl
    · exact h.runes l hl x hx
    · rcases showL_mem hx with hx | rfl | rfl
      · exact hrr x hx
      · omega
      · omega
theorem cut_fine {s : SM} {n : Nat} (h : s.Fine n) : s.cut.Fine n := by
  refine ⟨?_, ?_, h.col, fun l hl => ?_, h.wait, h.bells, h.odd, fun l hl x hx => ?_, h.bytes⟩
  · show (s.rows.set _ _).length ≤ _
    rw [List.length_set]; exact h.rows
  · show s.row < (s.rows.set _ _).length
    rw [List.length_set]; exact h.row
  · rcases mem_set hl with hl | rfl
    · exact h.len l hl
    · rw [List.length_take]; have := h.len _ h.rowMem; omega
  · rcases mem_set hl with hl | rfl
    · exact h.runes l hl x hx
    · exact h.runes _ h.rowMem x (List.mem_of_mem_take hx)
theorem seq_fine {s : SM} {n : Nat} (h : s.Fine n) (t : List UInt8) : (s.seq t).1.Fine n := by
  unfold SM.seq
  split
  · exact cut_fine h
  · split
    · exact ⟨h.rows, h.row, h.col, h.len, h.wait, h.bells, h.odd, h.runes, h.bytes⟩
    · split
      · exact ⟨h.rows, h.row, h.col, h.len, h.wait, h.bells, h.odd, h.runes, h.bytes⟩
      · split
        · exact ⟨h.rows, h.row, Nat.le_trans (Nat.sub_le _ _) h.col, h.len, h.wait, h.bells, h.odd, h.runes, h.bytes⟩
        · exact h
theorem line_fine {s : SM} {n : Nat} (h : s.Fine n) : s.line.Fine (n + 1) := by
  have hr := h.rows
  have hr2 := h.row
  unfold SM.line
  by_cases e : s.row + 1 = s.rows.length
  · rw [if_pos e]
    refine ⟨by simp only [List.length_append, List.length_cons, List.length_nil]; omega, by simp only [List.length_append, List.length_cons, List.length_nil]; omega, Nat.le_succ_of_le h.col, fun l hl => ?_, Nat.le_succ_of_le h.wait, Nat.le_succ_of_le h.bells, Nat.le_succ_of_le h.odd, fun l hl x hx => ?_, h.bytes⟩
    · rcases List.mem_append.1 hl with hl | hl
      · exact Nat.le_succ_of_le (h.len l hl)
      · rw [List.mem_singleton.1 hl]; exact Nat.zero_le _
    · rcases List.mem_append.1 hl with hl | hl
      · exact h.runes l hl x hx
      · rw [List.mem_singleton.1 hl] at hx; cases hx
  · rw [if_neg e]
    exact ⟨Nat.le_succ_of_le hr, by show s.row + 1 < s.rows.length; omega, Nat.le_succ_of_le h.col, fun l hl => Nat.le_succ_of_le (h.len l hl), Nat.le_succ_of_le h.wait, Nat.le_succ_of_le h.bells, Nat.le_succ_of_le h.odd, h.runes, h.bytes⟩
theorem char_fine {s : SM} {n : Nat} (h : s.Fine n) (c : Int) (h0 : 0 ≤ c) (h1 : c ≤ 1114111) : (s.char c).1.Fine (n + 1) := by
  unfold SM.char
  split
  · exact show_fine h c h0 h1
  · split
    · have := h.up (Nat.le_succ n)
      exact ⟨this.rows, this.row, Nat.zero_le _, this.len, this.wait, this.bells, this.odd, this.runes, this.bytes⟩
    · split
      · exact line_fine h
      · split
        · have := h.up (Nat.le_succ n)
          exact ⟨this.rows, this.row, this.col, this.len, this.wait, Nat.succ_le_succ h.bells, this.odd, this.runes, this.bytes⟩
        · exact h.up (Nat.le_succ n)
theorem odds_fine {p : SM × Bool} {n K : Nat} (h : p.1.Fine (n + K)) (ho : p.1.odd ≤ n) : (SM.odds p K).Fine (n + K) := by
  unfold SM.odds
  split
  · exact h
  · exact ⟨h.rows, h.row, h.col, h.len, h.wait, h.bells, Nat.add_le_add_right ho K, h.runes, h.bytes⟩
theorem step_fine {s : SM} {n : Nat} (h : s.Fine n) (hw : s.wait ≠ []) : s.step.1.Fine (n + s.step.2) := by
  unfold SM.step
  split
  · split
    · exact h
    · exact odds_fine ((seq_fine h _).up (Nat.le_add_right _ _)) (by rw [seq_odd]; exact h.odd)
  · split
    · exact h
    · have hk := (nxS_le hw).1
      have hc := nxS_char hw h.bytes
      split
      · exact odds_fine ((char_fine h _ (by omega) (by omega)).up (by show _ ≤ n + (nxL s.wait).2.1; omega)) (by rw [char_odd]; exact h.odd)
      · exact odds_fine (p := (s, false)) (h.up (Nat.le_add_right _ _)) h.odd
theorem step_le {s : SM} (hw : s.wait ≠ []) : s.step.2 ≤ s.wait.length := by
  unfold SM.step
  split
  · rename_i h27
    have := nextS_le hw h27
    split
    · exact Nat.zero_le _
    · show (nextL s.wait).2.2.1.toNat ≤ _
      omega
  · have := nxS_le hw
    split
    · exact Nat.zero_le _
    · exact this.2
theorem SM.Fine.drop {s : SM} {n : Nat} (h : s.Fine n) (k : Nat) : ({ s with wait := s.wait.drop k } : SM).Fine n :=
  ⟨h.rows, h.row, h.col, h.len, by show (s.wait.drop k).length ≤ n; rw [List.length_drop]; have := h.wait; omega, h.bells, h.odd, h.runes, fun x hx => h.bytes x (List.mem_of_mem_drop hx)⟩
/-- Fuel enough. -/
theorem run_more : ∀ (k : Nat) (s : SM), s.wait.length ≤ k → SM.run k s = SM.run s.wait.length s
  | 0, s, h => by
    have : s.wait.length = 0 := by omega
    rw [this]
  | k + 1, s, h => by
    by_cases h0 : s.wait = []
    · rw [h0]
      show SM.run (k + 1) s = SM.run 0 s
      rw [SM.run_succ, if_pos h0]
      rfl
    · have hp := List.length_pos_iff.2 h0
      obtain ⟨m, hm⟩ : ∃ m, s.wait.length = m + 1 := ⟨s.wait.length - 1, by omega⟩
      rw [hm, SM.run_succ, SM.run_succ, if_neg h0, if_neg h0]
      split
      · rfl
      · rename_i hz
        have hle := step_le h0
        have hl : ({ s.step.1 with wait := s.step.1.wait.drop s.step.2 } : SM).wait.length ≤ m := by
          show (s.step.1.wait.drop s.step.2).length ≤ m
          rw [step_wait, List.length_drop]
          omega
        rw [run_more k _ (by omega)]
        have h2 := run_more m _ hl
        rw [h2]
  termination_by k => k
/-- The next of a run. -/
theorem run_next {s : SM} (h0 : s.wait ≠ []) (hz : s.step.2 ≠ 0) : SM.run s.wait.length s = SM.run (s.wait.drop s.step.2).length { s.step.1 with wait := s.wait.drop s.step.2 } := by
  have hp := List.length_pos_iff.2 h0
  obtain ⟨m, hm⟩ : ∃ m, s.wait.length = m + 1 := ⟨s.wait.length - 1, by omega⟩
  rw [hm, SM.run_succ, if_neg h0, if_neg hz]
  rw [step_wait]
  have := run_more m { s.step.1 with wait := s.wait.drop s.step.2 } (by show (s.wait.drop s.step.2).length ≤ m; rw [List.length_drop]; omega)
  rw [this]
theorem run_stop {s : SM} (h0 : s.wait ≠ []) (hz : s.step.2 = 0) : SM.run s.wait.length s = s.step.1 := by
  have hp := List.length_pos_iff.2 h0
  obtain ⟨m, hm⟩ : ∃ m, s.wait.length = m + 1 := ⟨s.wait.length - 1, by omega⟩
  rw [hm, SM.run_succ, if_neg h0, if_pos hz]
theorem run_end {s : SM} (h0 : s.wait = []) : SM.run s.wait.length s = s := by rw [h0]; rfl
theorem run_fine : ∀ (k : Nat) (s : SM) (n : Nat), s.Fine n → (SM.run k s).Fine (n + s.wait.length)
  | 0, s, n, h => h.up (Nat.le_add_right _ _)
  | k + 1, s, n, h => by
    rw [SM.run_succ]
    split
    · exact h.up (Nat.le_add_right _ _)
    · rename_i h0
      split
      · rename_i hz
        have := step_fine h h0
        rw [hz] at this
        exact this.up (Nat.le_add_right _ _)
      · have h1 := (step_fine h h0).drop s.step.2
        have h2 := run_fine k _ _ h1
        refine h2.up ?_
        have := step_le h0
        show n + s.step.2 + (s.step.1.wait.drop s.step.2).length ≤ _
        rw [step_wait, List.length_drop]
        omega
end Go.Proofs.YtmdeehblmkpddaaDoor.Hand

namespace Go.Proofs.YtmdeehblmkpddaaDoor.Hand
open Go.RowKit Go.Proofs.YtmdeehblmkpddaaDoorW.PrintWords Go.Proofs.YtmdeehblmkpddaaDoorW.PrintLast
set_option linter.unusedVariables false
set_option linter.unusedSimpArgs false
theorem info_u8 : (Tryd.prog.info? 5).map (fun i => (i.zero, i.size, i.bytes)) = some (some (.int .u8 0), 1, 1) := by kernel_rfl
/-- What lay before is as it was; what may turn is newer. -/
structure Gr (w0 w : World) (F : Nat → Prop) : Prop where
  b : Below w0.heap.size w0 w
  f : ∀ b, F b → w0.heap.size ≤ b
theorem Gr.mod {w0 w W : World} {F : Nat → Prop} (h : Gr w0 w F) (m : Mod F w W) : Gr w0 W (Fnew F w W) := by
  have hs := h.b.size
  refine ⟨⟨m.os.trans h.b.os, m.tape.trans h.b.tape, m.output.trans h.b.output, Nat.le_trans hs m.size, fun k hk => (m.block k (by omega) (fun hf => by have := h.f k hf; omega)).trans (h.b.block k hk)⟩, fun b hb => ?_⟩
  rcases hb with hb | hb
  · exact h.f b hb
  · omega
/-- More waits. -/
theorem ScrX.more {W w2 : World} {g : Nat} {s : SM} {vr vw v' : Value} {vs : List Value} {who : Nat → Nat} {F : Nat → Prop} {l : List Int} (h : ScrX none W g s vr vw vs who F)
    (hv : IRow w2 v' ((s.wait ++ l).map (.int .u8))) (hg : W.grownBy w2 vw.ownBlock) (hb : v'.ownBlock = vw.ownBlock ∨ v'.ownBlock = some W.heap.size) :
    w2.cell? ⟨g, 3, none⟩ = some vw ∧ w2.frozen? ⟨g, 3, none⟩ = false ∧ Scr (w2.setCell ⟨g, 3, none⟩ v') g { s with wait := s.wait ++ l } (Fnew F W (w2.setCell ⟨g, 3, none⟩ v')) ∧ Mod F W (w2.setCell ⟨g, 3, none⟩ v') := by
  have hsz : (w2.setCell ⟨g, 3, none⟩ v').heap.size = w2.heap.size := by simp
  have hs1 := hg.size
  have hk : ∀ b, F b → who b ≠ 2 → w2.heap[b]? = W.heap[b]? := fun b hf hne => hg.block b (h.lt b hf) (fun e => hne (h.g2 b e.symm).1)
  have me : w2.heap[g]? = some (.cells (scrCells s vr vw) 63 (0, 0)) := (hk g h.fg (by rw [h.g0]; omega)).trans h.me
  have hm1 : Mod F W w2 := Mod.ofGrown hg (fun b e => (h.g2 b e).2)
  have hm2 := hm1.trans (Mod.ofSet (F := F) w2 g 3 v' h.fg) (fun _ _ h => h)
  refine ⟨(blk_cell me 3).trans rfl, blk_frozen me 3, ?_, hm2⟩
  have hk2 : ∀ b, F b → who b ≠ 2 → who b ≠ 0 → (w2.setCell ⟨g, 3, none⟩ v').heap[b]? = W.heap[b]? := fun b hf h1 h0 =>
    (Below.heap_setCell w2 _ v' b (fun e => h0 (by rw [show b = g from e]; exact h.g0))).trans (hk b hf h1)
  have hvg : ∀ b, v'.ownBlock = some b → b ≠ g := fun b e e2 => by
    subst e2
    rcases hb with h1 | h1
    · rw [h1] at e
      have := (h.g2 _ e).1
      rw [h.g0] at this
      cases this
    · rw [h1] at e
      have := h.lt _ h.fg
      have := Option.some.inj e
      omega
  have hw : ∀ b, F b → (if W.heap.size ≤ b then 2 else who b) = who b := fun b hf => by
    have := h.lt b hf
    rw [if_neg (by omega)]
  refine ⟨vr, v', vs, fun b => if W.heap.size ≤ b then 2 else who b, ?_⟩
  refine ⟨blk_put me 3 v' rfl, h.rs.kept (fun b e => ?_) (by omega), h.n, fun i _ v e => ?_, hv.kept (fun b e => Below.heap_setCell w2 _ v' b (hvg b e)) (by omega), (hw g h.fg).trans h.g0, fun b e => ?_, fun b e => ?_, fun i _ v e b e2 => ?_, .inl h.fg, Fnew_id h.lt hm2.size⟩
  · have := h.g1 b e
    exact hk2 b this.2 (by rw [this.1]; omega) (by rw [this.1]; omega)
  · refine (h.inn i (by simp) v e).kept (fun b e2 => ?_) (by omega)
    have := h.g3 i (by simp) v e b e2
    exact hk2 b this.2 (by rw [this.1]; omega) (by rw [this.1]; omega)
  · have := h.g1 b e
    exact ⟨(hw b this.2).trans this.1, .inl this.2⟩
  · rcases hb with h1 | h1
    · rw [h1] at e
      have := h.g2 b e
      exact ⟨(hw b this.2).trans this.1, .inl this.2⟩
    · have hlt := hv.lt b e
      rw [h1] at e
      have e := Option.some.inj e
      refine ⟨?_, .inr ⟨by omega, by omega⟩⟩
      rw [if_pos (by omega)]
  · have := h.g3 i (by simp) v e b e2
    exact ⟨(hw b this.2).trans this.1, .inl this.2⟩
theorem Src_of {w : World} {A : Option Addr} {c : Nat} {l : List Int} (hr : Kd.C (Kd.int .u8) w A l.length l) (hc : l.length ≤ c) : Src Tryd.prog 1 22 (.slice A l.length c) l.length (l.map (.int .u8)) w := by
  have h := Kd.reads_of_C (d := (0 : Int)) hr
  by_cases hz : l.length = 0
  · have : l = [] := List.eq_nil_of_length_eq_zero hz
    subst this
    cases A with
    | none => exact Src.ofNil w Tryd.underlying22 c
    | some a => exact Src.ofSlice w Tryd.underlying22 a 0 c [] rfl (fun j u hj => by simp at hj) (fun u hu => by simp at hu)
  · obtain ⟨a, rfl, hcell⟩ := h.2.2 (by omega)
    refine Src.ofSlice w Tryd.underlying22 a l.length c (l.map (.int .u8)) (by simp) (fun j u hj => ?_) (fun u hu => ?_)
    · rw [List.getElem?_map] at hj
      by_cases hjl : j < l.length
      · rw [List.getElem?_eq_getElem hjl] at hj
        have hj : Value.int .u8 l[j] = u := by simpa using hj
        rw [hcell j hjl, ← hj]
        simp [List.getD_eq_getElem?_getD, List.getElem?_eq_getElem hjl]
      · rw [List.getElem?_eq_none (by omega)] at hj; cases hj
    · obtain ⟨x, _, rfl⟩ := List.mem_map.1 hu
      rfl
theorem feed_nil (v : Value) (w : World) : Calls Tryd.prog 12 #[.pointer none, v] w fun e w' => e = .returned (.int .i64 1) ∧ w' = w := by
  go_enter Tryd.func12, Tryd.ntmps12
  go_wp2_with (fail)
  go_ret
  exact ⟨rfl, rfl⟩

theorem Scr.fold {F : Nat → Prop} {w W U : World} {g : Nat} {s : SM} (h : Scr U g s (Fnew (Fnew F w W) W U)) (h1 : w.heap.size ≤ W.heap.size) (h2 : W.heap.size ≤ U.heap.size) (hF : ∀ b, F b → b < w.heap.size) : Scr U g s (Fnew F w U) := by
  obtain ⟨vr, vw, vs, who, h⟩ := h
  refine ⟨vr, vw, vs, who, h.wider (fun b hb => ?_) (Fnew_id hF (Nat.le_trans h1 h2))⟩
  rcases hb with (hb | hb) | hb
  · exact .inl hb
  · exact .inr ⟨hb.1, by omega⟩
  · exact .inr ⟨by omega, hb.2⟩
theorem Mod.fold {F : Nat → Prop} {w W U : World} (h : Mod F w W) (h' : Mod (Fnew F w W) W U) : Mod F w U :=
  h.trans h' (fun k hk hf => hf.elim id (fun h => by omega))
/-- While it is fed: what is left comes to R. -/
structure FeedRel (w0 w : World) (g : Nat) (F : Nat → Prop) (R : SM) (N : Nat) (wr : World) (s : SM) : Prop where
  x : Scr wr g s (Fnew F w wr)
  m : Mod F w wr
  n : ∃ n, s.Fine n ∧ n + s.wait.length ≤ N
  r : SM.run s.wait.length s = R
set_option maxHeartbeats 4000000 in
set_option maxRecDepth 100000 in
theorem feed_ok (w0 w : World) (g : Nat) (s : SM) (F : Nat → Prop) (n : Nat) (A : Option Addr) (c : Nat) (l : List Int) (h : Scr w g s F) (hf : s.Fine n) (hG : Gr w0 w F) (HT : TabN w0) (HU : U8In w0)
    (hr : Kd.C (Kd.int .u8) w A l.length l) (hc : l.length ≤ c) (hb : ∀ x ∈ l, 0 ≤ x ∧ x ≤ 255) (hn : n + s.wait.length + 2 * l.length ≤ 100000) :
    Calls Tryd.prog 12 #[.pointer (some ⟨g, 0, none⟩), .slice A l.length c] w fun e w' => e = .returned (.int .i64 0) ∧ Scr w' g (s.feed l) (Fnew F w w') ∧ Mod F w w' := by
  obtain ⟨i0, hi, hz0, hz1, hz2⟩ := info_parts info_u8
  obtain ⟨vr, vw, vs, who, hx⟩ := id h
  have hl := hx.lt
  have hwn := hf.wait
  obtain ⟨A0, cap0, rfl, hc0, hm0⟩ := hx.wt.slice
  rw [List.length_map] at hc0 hx
  have m3 : w.cell? ⟨g, 3, none⟩ = some (.slice A0 s.wait.length cap0) := (blk_cell hx.me 3).trans rfl
  have hsrc := Src_of hr hc
  have hwt : IRow w (.slice A0 s.wait.length cap0) (s.wait.map (.int .u8)) := hx.wt
  have hf1 : ({ s with wait := s.wait ++ l } : SM).Fine (n + l.length) := by
    have := hf.up (Nat.le_add_right n l.length)
    refine ⟨this.rows, this.row, this.col, this.len, ?_, this.bells, this.odd, this.runes, fun x hx => ?_⟩
    · show (s.wait ++ l).length ≤ _
      rw [List.length_append]; omega
    · rcases List.mem_append.1 hx with hx | hx
      · exact hf.bytes x hx
      · exact hb x hx
  have hR : SM.run (s.wait ++ l).length { s with wait := s.wait ++ l } = s.feed l := by
    unfold SM.feed
    rw [List.length_append]
  have hfA := Aside0.mk hf1
  have hRA := Aside0.mk hR
  have hxA := Aside0.mk hx
  have hGA := Aside0.mk hG
  generalize s.feed l = R at *
  clear hx hf hf1 hR h hG hr
  go_enter Tryd.func12, Tryd.ntmps12
  go_wp2_with (at_builtin; refine wpList_append_irow _ rfl _ _ 22 22 rfl 5 i0 (.int .u8 0) 1 Tryd.underlying22 hi hz0 hz1 hz2 rfl rfl hwt rfl l.length (l.map (.int .u8)) hsrc (by rw [List.length_map]; unfold maxLen; omega) (by rw [List.length_map]; omega) ?_; intro v' w5 hown hgr hbl; rw [← List.map_append] at hown; obtain ⟨qg, fg, hfin⟩ := hxA.out.more hown hgr hbl; replace hfin := Aside0.mk hfin; obtain ⟨A', cap', rfl, hc1, hc2⟩ := hown.slice; clear hown hgr hbl hc1 hc2)
  have H0 := Aside0.mk (show FeedRel w0 w g F R 100000 _ { s with wait := s.wait ++ l } from ⟨hfin.out.1, hfin.out.2, ⟨_, hfA.out, by show n + l.length + (s.wait ++ l).length ≤ _; rw [List.length_append]; omega⟩, hRA.out⟩)
  rw [show ((s.wait ++ l).map (Value.int .u8)).length = s.wait.length + l.length by rw [List.length_map, List.length_append]] at H0
  clear hfin m3 hsrc hwt qg fg hfA hRA hxA
  go_loopw [5] (fun v5 wr => ∃ s', Aside0 (FeedRel w0 w g F R 100000 wr s')) (fun v5 wr => match wr.cell? ⟨g, 3, none⟩ with | some (.slice _ q _) => q | _ => 0)
  case atStart => exact ⟨_, H0⟩
  case round =>
    obtain ⟨s', hR⟩ := hrel
    obtain ⟨n', hn1, hn2⟩ := hR.out.n
    have hGr := hGA.out.mod hR.out.m
    have hTr := HT.below hGr.b
    have hUr := HU.below hGr.b
    obtain ⟨vr', vw', vs', who', hx'⟩ := hR.out.x
    obtain ⟨A2, cap2, rfl, h1, h2⟩ := hx'.wt.slice
    rw [List.length_map] at h1 hx'
    have m3 : wr.cell? ⟨g, 3, none⟩ = some (.slice A2 s'.wait.length cap2) := (blk_cell hx'.me 3).trans rfl
    clear hx' hGr
    by_cases h0 : s'.wait = []
    · have hr := hR.out.r
      rw [run_end h0] at hr
      subst hr
      have hfin := Aside0.mk (And.intro hR.out.x hR.out.m)
      clear hR hn1 hn2
      rw [h0, List.length_nil] at m3
      go_wp2_with (fail)
      go_ret
      exact ⟨rfl, hfin.out.1, hfin.out.2⟩
    · have NX := nextS_ok wr g s' (Fnew F w wr) n' hR.out.x hn1 (by omega) h0 hTr hUr
      have hpos : 0 < s'.wait.length := List.length_pos_iff.2 h0
      have hle := step_le h0
      have hme : Aside0 ((match wr.cell? ⟨g, 3, none⟩ with | some (.slice _ q _) => q | _ => 0) = s'.wait.length) := ⟨by rw [m3]⟩
      go_wp2_with (fail)
      refine NX.mono ?_
      rintro e w1 ⟨rfl, hs1, hm1⟩
      have hs2 := hs1.fold hR.out.m.size hm1.size hl
      have hm2 := hR.out.m.fold hm1
      clear NX hs1 hm1 m3
      by_cases hz : s'.step.2 = 0
      · have hr := hR.out.r
        rw [run_stop h0 hz] at hr
        have hfin := Aside0.mk (And.intro hs2 hm2)
        rw [hr] at hfin
        rw [hz]
        clear hR hn1 hn2 hs2 hm2
        go_wp2_with (fail)
        go_ret
        exact ⟨rfl, hfin.out.1, hfin.out.2⟩
      · have hr := Aside0.mk ((run_next h0 hz).symm.trans hR.out.r)
        have hfi := Aside0.mk ((step_fine hn1 h0).drop s'.step.2)
        rw [step_wait] at hfi
        have hwt := step_wait s'
        obtain ⟨vr1, vw1, vs1, who1, hx1⟩ := hs2
        obtain ⟨b, off, cap1, rfl, g1, g2, g3, g4, g5⟩ := hx1.wt.form (by intro e; rw [List.map_eq_nil_iff, hwt] at e; exact h0 e)
        rw [List.length_map, hwt] at g1 hx1
        have m3 : w1.cell? ⟨g, 3, none⟩ = some (.slice (some ⟨b, off, none⟩) s'.wait.length cap1) := (blk_cell hx1.me 3).trans rfl
        have f3 := blk_frozen hx1.me 3
        have hxA2 := Aside0.mk hx1
        have hmA2 := Aside0.mk hm2
        generalize s'.step.2 = K at *
        clear hx1 hm2 hR g3 g4 g5
        go_wp2_with (fail)
        have hV : (Value.slice (if cap1 = K then some ⟨b, off, none⟩ else some ⟨b, off + K, none⟩) (s'.wait.length - K) (cap1 - K)) = .slice (some ⟨b, if cap1 = K then off else off + K, none⟩) (s'.wait.length - K) (cap1 - K) := by split <;> rfl
        rw [hV]
        have hrow : IRow w1 (.slice (some ⟨b, off, none⟩) (s'.wait.map (Value.int .u8)).length cap1) (s'.wait.map (.int .u8)) := by
          have := hxA2.out.wt
          rw [hwt] at this
          rw [List.length_map]
          exact this
        have hoff : (if cap1 = K then off else off + K) = off + K ∨ cap1 - K = 0 := by
          by_cases e : cap1 = K
          · exact .inr (by omega)
          · rw [if_neg e]; exact .inl rfl
        have hdrop := IRow.drop hrow (hrow.lt b rfl) K (by rw [List.length_map]; exact hle) (if cap1 = K then off else off + K) hoff
        rw [List.length_map, ← List.map_drop] at hdrop
        have hx3 := hxA2.out.waits (s' := { s'.step.1 with wait := s'.wait.drop K }) (vw' := .slice (some ⟨b, if cap1 = K then off else off + K, none⟩) (s'.wait.length - K) (cap1 - K)) rfl hdrop (fun k e => hxA2.out.g2 k e)
        have m5 := hmA2.out.trans (Mod.ofSet (F := Fnew F w w1) w1 g 3 (.slice (some ⟨b, if cap1 = K then off else off + K, none⟩) (s'.wait.length - K) (cap1 - K)) hxA2.out.fg) (fun k hk h => h.elim id (fun h => by omega))
        refine ⟨⟨_, ⟨⟨⟨_, _, _, _, hx3.wider (fun k hk => hk.elim .inl (fun h => .inr ⟨h.1, by simpa using h.2⟩)) (Fnew_id hl m5.size)⟩, m5, ⟨n' + K, hfi.out, ?_⟩, hr.out⟩⟩⟩, ?_⟩
        · show n' + K + (s'.wait.drop K).length ≤ 100000
          rw [List.length_drop]
          omega
        · rw [hme.out, World.cell?_setCell_same' _ _ _ (by rw [m3]; rfl)]
          show s'.wait.length - K < s'.wait.length
          omega
end Go.Proofs.YtmdeehblmkpddaaDoor.Hand

namespace Go.Proofs.YtmdeehblmkpddaaDoor.Hand
open Go.RowKit Go.Proofs.YtmdeehblmkpddaaDoorW.PrintWords Go.Proofs.YtmdeehblmkpddaaDoorW.PrintLast
set_option linter.unusedVariables false
set_option linter.unusedSimpArgs false
/-- The blocks that are new in W. -/
def Newer (w W : World) (k : Nat) : Prop := w.heap.size ≤ k ∧ k < W.heap.size
theorem fresh_fine : SM.fresh.Fine 1 := by
  refine ⟨by decide, by decide, by decide, fun l hl => ?_, by decide, by decide, by decide, fun l hl x hx => ?_, fun x hx => ?_⟩
  · rw [show SM.fresh.rows = [[]] from rfl] at hl
    rw [List.mem_singleton.1 hl]; decide
  · rw [show SM.fresh.rows = [[]] from rfl] at hl
    rw [List.mem_singleton.1 hl] at hx; cases hx
  · cases hx
set_option maxRecDepth 100000 in
set_option maxHeartbeats 4000000 in
theorem fresh_scr (w : World) : Scr ((w.alloc (.cells #[.slice none 0 0] 78)).alloc (.cells (scrCells SM.fresh (.slice (some ⟨w.heap.size, 0, none⟩) 1 1) (.slice none 0 0)) 63)) (w.heap.size + 1) SM.fresh
    (Newer w ((w.alloc (.cells #[.slice none 0 0] 78)).alloc (.cells (scrCells SM.fresh (.slice (some ⟨w.heap.size, 0, none⟩) 1 1) (.slice none 0 0)) 63))) := by
  have h0 := heap_alloc_new w (.cells #[.slice none 0 0] 78)
  have h1 := heap_alloc_new (w.alloc (.cells #[.slice none 0 0] 78)) (.cells (scrCells SM.fresh (.slice (some ⟨w.heap.size, 0, none⟩) 1 1) (.slice none 0 0)) 63)
  have hs : (w.alloc (.cells #[.slice none 0 0] 78)).heap.size = w.heap.size + 1 := by simp
  have h2 := heap_alloc_old (w.alloc (.cells #[.slice none 0 0] 78)) (.cells (scrCells SM.fresh (.slice (some ⟨w.heap.size, 0, none⟩) 1 1) (.slice none 0 0)) 63) (show w.heap.size < _ by omega)
  have h0' := h2.trans h0
  rw [hs] at h1
  have hs2 : ((w.alloc (.cells #[.slice none 0 0] 78)).alloc (.cells (scrCells SM.fresh (.slice (some ⟨w.heap.size, 0, none⟩) 1 1) (.slice none 0 0)) 63)).heap.size = w.heap.size + 2 := by simp
  refine ⟨.slice (some ⟨w.heap.size, 0, none⟩) 1 1, .slice none 0 0, [.slice none 0 0], fun b => if b = w.heap.size then 1 else 0, ?_⟩
  unfold Newer
  rw [hs2]
  refine ⟨h1, .inr ⟨w.heap.size, 0, 1, rfl, Nat.le_refl _, by unfold maxLen; omega, by rw [hs2]; omega, fun j u hj => ?_, fun j hj => ?_⟩, rfl, fun i _ v hv => ?_, .inl ⟨rfl, rfl⟩, (by simp), fun b e => ?_, fun b e => (by cases e), fun i _ v hv b e => ?_, ⟨by omega, by omega⟩, fun b hb => by rw [hs2]; exact hb.2⟩
  · match j, hj with
    | 0, hj => injection hj with hj; subst hj; exact (blk_cell h0' 0).trans rfl
    | j + 1, hj => simp at hj
  · have : j = 0 := by omega
    subst this
    exact ⟨by rw [show (0 + 0 : Nat) = 0 from rfl, blk_cell h0' 0]; rfl, blk_frozen h0' _⟩
  · match i, hv with
    | 0, hv => injection hv with hv; subst hv; exact .inl ⟨rfl, rfl⟩
    | i + 1, hv => simp at hv
  · have e : w.heap.size = b := Option.some.inj e
    subst e
    exact ⟨by simp, by omega⟩
  · match i, hv with
    | 0, hv => injection hv with hv; subst hv; cases e
    | i + 1, hv => simp at hv
set_option maxRecDepth 100000 in
set_option maxHeartbeats 4000000 in
theorem new_ok (w : World) : Calls Tryd.prog 10 #[] w fun e w' => ∃ g, e = .returned (.pointer (some ⟨g, 0, none⟩)) ∧ Scr w' g SM.fresh (Newer w w') ∧ Below w.heap.size w w' := by
  have hfin := Aside0.mk (fresh_scr w)
  unfold scrCells SM.fresh at hfin
  go_enter Tryd.func10, Tryd.ntmps10
  go_wp2_with (fail)
  go_ret
  exact ⟨_, rfl, hfin.out, ((Below.refl _ w).alloc (Nat.le_refl _) _).alloc (by simp) _⟩
theorem rows_ok (w : World) (g : Nat) (s : SM) (F : Nat → Prop) (h : Scr w g s F) : Calls Tryd.prog 20 #[.pointer (some ⟨g, 0, none⟩)] w fun e w' => e = .returned (.int .i64 s.rows.length) ∧ Below w.heap.size w w' := by
  obtain ⟨vr, vw, vs, who, hx⟩ := h
  obtain ⟨A, cap, rfl, h1, h2⟩ := hx.rs.slice
  have m0 : w.cell? ⟨g, 0, none⟩ = some (.slice A vs.length cap) := (blk_cell hx.me 0).trans rfl
  rw [hx.n] at m0
  clear hx
  go_enter Tryd.func20, Tryd.ntmps20
  go_wp2_with (fail)
  go_ret
  exact ⟨rfl, Below.refl _ _⟩
theorem odd_ok (w : World) (g : Nat) (s : SM) (F : Nat → Prop) (h : Scr w g s F) : Calls Tryd.prog 15 #[.pointer (some ⟨g, 0, none⟩)] w fun e w' => e = .returned (.int .i64 s.odd) ∧ Below w.heap.size w w' := by
  obtain ⟨vr, vw, vs, who, hx⟩ := h
  have m0 : w.cell? ⟨g, 6, none⟩ = some (.int .i64 s.odd) := (blk_cell hx.me 6).trans rfl
  clear hx
  go_enter Tryd.func15, Tryd.ntmps15
  go_wp2_with (fail)
  go_ret
  exact ⟨rfl, Below.refl _ _⟩
theorem bells_ok (w : World) (g : Nat) (s : SM) (F : Nat → Prop) (h : Scr w g s F) : Calls Tryd.prog 24 #[.pointer (some ⟨g, 0, none⟩)] w fun e w' => e = .returned (.int .i64 s.bells) ∧ Below w.heap.size w w' := by
  obtain ⟨vr, vw, vs, who, hx⟩ := h
  have m0 : w.cell? ⟨g, 4, none⟩ = some (.int .i64 s.bells) := (blk_cell hx.me 4).trans rfl
  clear hx
  go_enter Tryd.func24, Tryd.ntmps24
  go_wp2_with (fail)
  go_ret
  exact ⟨rfl, Below.refl _ _⟩
theorem pastes_ok (w : World) (g : Nat) (s : SM) (F : Nat → Prop) (h : Scr w g s F) : Calls Tryd.prog 25 #[.pointer (some ⟨g, 0, none⟩)] w fun e w' => e = .returned (.bool s.pastes) ∧ Below w.heap.size w w' := by
  obtain ⟨vr, vw, vs, who, hx⟩ := h
  have m0 : w.cell? ⟨g, 5, none⟩ = some (.bool s.pastes) := (blk_cell hx.me 5).trans rfl
  clear hx
  generalize s.pastes = p at *
  go_enter Tryd.func25, Tryd.ntmps25
  go_wp2_with (fail)
  go_ret
  exact ⟨rfl, Below.refl _ _⟩
theorem place_ok (w : World) (g : Nat) (s : SM) (F : Nat → Prop) (h : Scr w g s F) : Calls Tryd.prog 13 #[.pointer (some ⟨g, 0, none⟩)] w fun e w' => e = .returned (.tuple #[.int .i64 s.row, .int .i64 s.col]) ∧ Below w.heap.size w w' := by
  obtain ⟨vr, vw, vs, who, hx⟩ := h
  have m1 : w.cell? ⟨g, 1, none⟩ = some (.int .i64 s.row) := (blk_cell hx.me 1).trans rfl
  have m2 : w.cell? ⟨g, 2, none⟩ = some (.int .i64 s.col) := (blk_cell hx.me 2).trans rfl
  clear hx
  go_enter Tryd.func13, Tryd.ntmps13
  go_wp2_with (fail)
  go_quiet (fail)
  have hb := Aside0.mk (pw_below_drewN (Below.refl w.heap.size w) nq)
  clear m1 m2
  generalize w.drewN nq = W0 at *
  go_wp2_with (fail)
  go_ret2
  exact ⟨rfl, hb.out⟩

set_option maxRecDepth 100000 in
theorem conv_runes {w : World} {A : Option Addr} {c : Nat} {l : List Int} (h : IRow w (.slice A l.length c) (l.map (.int .i32))) :
    (Go.convert 78 9 (.slice A l.length c)).run Tryd.prog w = .ok (.string (runesBytes l)) w := by
  rcases h with ⟨e, h0⟩ | ⟨b, off, cap, e, h1, h2, h3, h4, h5⟩
  · injection e with e1 e2 e3
    subst e1
    have : l = [] := List.map_eq_nil_iff.1 h0
    subst this
    exact run_convert_runes_nil w 78 9 21 _ _ Tryd.underlying78 Tryd.underlying21 Tryd.underlying9
  · injection e with e1 e2 e3
    subst e1
    have hall : ∀ j, j < l.length → w.cell? ((⟨b, off, none⟩ : Addr).add j) = some (.int .i32 (l.getD j 0)) := fun j hj => by
      rw [Addr.add_mid]
      refine h4 j _ ?_
      rw [List.getElem?_map, List.getElem?_eq_getElem hj]
      simp [List.getD_eq_getElem?_getD, List.getElem?_eq_getElem hj]
    have := run_convert_runes w 78 9 21 ⟨b, off, none⟩ l.length c l (Nat.le_refl _) Tryd.underlying78 Tryd.underlying21 Tryd.underlying9 hall
    rw [List.take_length] at this
    exact this
set_option maxRecDepth 100000 in
set_option maxHeartbeats 4000000 in
theorem row_ok (w : World) (g : Nat) (s : SM) (F : Nat → Prop) (n : Nat) (h : Scr w g s F) (hf : s.Fine n) (hn : n ≤ 1000000) (i : Nat) (hi : i < s.rows.length) : Calls Tryd.prog 23 #[.pointer (some ⟨g, 0, none⟩), .int .i64 i] w fun e w' => e = .returned (.tuple #[.string (runesBytes (s.rows.getD i [])), .int .i64 0]) ∧ Below w.heap.size w w' := by
  obtain ⟨vr, vw, vs, who, hx⟩ := h
  have hiv : i < vs.length := by rw [hx.n]; exact hi
  obtain ⟨br, or_, cr, rfl, h1, h2, h3, h4, h5⟩ := hx.rs.form (by intro e; rw [e] at hiv; simp at hiv)
  have m0 : w.cell? ⟨g, 0, none⟩ = some (.slice (some ⟨br, or_, none⟩) vs.length cr) := (blk_cell hx.me 0).trans rfl
  have hvs := h4 i (vs[i]'hiv) (List.getElem?_eq_getElem hiv)
  have hin := hx.inn i (by simp) (vs[i]'hiv) (List.getElem?_eq_getElem hiv)
  obtain ⟨A0, cap0, hv0, hc0, hm0⟩ := hin.slice
  rw [List.length_map] at hv0
  rw [hv0] at hvs hin
  have hcv := conv_runes hin
  have hlen : (s.rows.getD i []).length ≤ n := by
    rw [List.getD_eq_getElem?_getD, List.getElem?_eq_getElem hi]
    exact hf.len _ (List.getElem_mem hi)
  have hsz := runesBytes_size_le (s.rows.getD i [])
  have hvn := hx.n
  have hrn := hf.rows
  rw [hvn] at m0
  clear hx hin h1 h2 h3 h4 h5 hc0 hm0 hv0 hvn hiv hf
  generalize runesBytes (s.rows.getD i []) = t at *
  generalize s.rows.getD i [] = l at *
  have hi0 : (0 : Int) ≤ (i : Int) := by omega
  have hi1 : (i : Int) < (s.rows.length : Int) := by omega
  go_enter Tryd.func23, Tryd.ntmps23
  go_wp2_with (fail)
  go_ret2
  exact ⟨rfl, Below.refl _ _⟩
set_option maxRecDepth 100000 in
set_option maxHeartbeats 4000000 in
theorem row_out (w : World) (g : Nat) (s : SM) (F : Nat → Prop) (h : Scr w g s F) (i : Int) (hi : i < 0 ∨ s.rows.length ≤ i) : Calls Tryd.prog 23 #[.pointer (some ⟨g, 0, none⟩), .int .i64 i] w fun e w' => e = .returned (.tuple #[.string ⟨#[]⟩, .int .i64 3]) ∧ Below w.heap.size w w' := by
  obtain ⟨vr, vw, vs, who, hx⟩ := h
  obtain ⟨A, cap, rfl, h1, h2⟩ := hx.rs.slice
  have m0 : w.cell? ⟨g, 0, none⟩ = some (.slice A vs.length cap) := (blk_cell hx.me 0).trans rfl
  rw [hx.n] at m0
  clear hx
  by_cases hi0 : i < 0
  · go_enter Tryd.func23, Tryd.ntmps23
    go_wp2_with (fail)
    go_ret2
    exact ⟨rfl, Below.refl _ _⟩
  · have hi1 : (s.rows.length : Int) ≤ i := by omega
    have hi2 : 0 ≤ i := by omega
    go_enter Tryd.func23, Tryd.ntmps23
    go_wp2_with (fail)
    go_ret2
    exact ⟨rfl, Below.refl _ _⟩
theorem rowS_ok (w : World) (g : Nat) (s : SM) (F : Nat → Prop) (n : Nat) (h : Scr w g s F) (hf : s.Fine n) (hn : n ≤ 1000000) (i : Nat) (hi : i < s.rows.length) : Calls Tryd.prog 14 #[.pointer (some ⟨g, 0, none⟩), .int .i64 i] w fun e w' => e = .returned (.string (runesBytes (s.rows.getD i []))) ∧ Below w.heap.size w w' := by
  have HR := row_ok w g s F n h hf hn i hi
  clear h hf
  generalize runesBytes (s.rows.getD i []) = t at *
  go_enter Tryd.func14, Tryd.ntmps14
  go_wp2_with (fail)
  refine HR.mono ?_
  rintro e w1 ⟨rfl, hb⟩
  clear HR
  go_wp2_with (fail)
  go_ret
  exact ⟨rfl, hb⟩
/- OF NO SCREEN. -/
theorem rows_nil (w : World) : Calls Tryd.prog 20 #[.pointer none] w fun e w' => e = .returned (.int .i64 0) ∧ w' = w := by
  go_enter Tryd.func20, Tryd.ntmps20
  go_wp2_with (fail)
  go_ret
  exact ⟨rfl, rfl⟩
theorem odd_nil (w : World) : Calls Tryd.prog 15 #[.pointer none] w fun e w' => e = .returned (.int .i64 0) ∧ w' = w := by
  go_enter Tryd.func15, Tryd.ntmps15
  go_wp2_with (fail)
  go_ret
  exact ⟨rfl, rfl⟩
theorem bells_nil (w : World) : Calls Tryd.prog 24 #[.pointer none] w fun e w' => e = .returned (.int .i64 0) ∧ w' = w := by
  go_enter Tryd.func24, Tryd.ntmps24
  go_wp2_with (fail)
  go_ret
  exact ⟨rfl, rfl⟩
theorem pastes_nil (w : World) : Calls Tryd.prog 25 #[.pointer none] w fun e w' => e = .returned (.bool false) ∧ w' = w := by
  go_enter Tryd.func25, Tryd.ntmps25
  go_wp2_with (fail)
  go_ret
  exact ⟨rfl, rfl⟩
theorem place_nil (w : World) : Calls Tryd.prog 13 #[.pointer none] w fun e w' => e = .returned (.tuple #[.int .i64 0, .int .i64 0]) ∧ w' = w := by
  go_enter Tryd.func13, Tryd.ntmps13
  go_wp2_with (fail)
  go_ret2
  exact ⟨rfl, rfl⟩
theorem row_nil (i : Int) (w : World) : Calls Tryd.prog 23 #[.pointer none, .int .i64 i] w fun e w' => e = .returned (.tuple #[.string ⟨#[]⟩, .int .i64 1]) ∧ w' = w := by
  go_enter Tryd.func23, Tryd.ntmps23
  go_wp2_with (fail)
  go_ret2
  exact ⟨rfl, rfl⟩
end Go.Proofs.YtmdeehblmkpddaaDoor.Hand
