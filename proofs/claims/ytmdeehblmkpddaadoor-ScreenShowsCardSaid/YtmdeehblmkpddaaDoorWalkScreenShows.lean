/- A screen shows what the document says: same, walked. -/
import Derived.Test.YtmdeehblmkpddaaDoorHandRead14
import Derived.Test.YtmdeehblmkpddaaDoorPlainText14
import Derived.Deep.RegionHeld3
import Derived.LoopTactic
import Derived.Deep.Matrix
import Derived.SizedLaws
namespace Go.Proofs.YtmdeehblmkpddaaDoor.Hand
open Go.RowKit Go.Proofs.YtmdeehblmkpddaaDoorW.PrintWords Go.Proofs.YtmdeehblmkpddaaDoorW.PrintLast
set_option linter.unusedVariables false
set_option linter.unusedSimpArgs false
/-- All that stands in a row is a character. -/
def SM.Cs (s : SM) : Prop := ∀ l ∈ s.rows, ∀ c ∈ l, isChar c = true
theorem SM.Cs.row {s : SM} (h : s.Cs) : ∀ c ∈ s.rowOf, isChar c = true := by
  unfold SM.rowOf
  rw [List.getD_eq_getElem?_getD]
  by_cases hr : s.row < s.rows.length
  · rw [List.getElem?_eq_getElem hr]
    exact h _ (List.getElem_mem hr)
  · rw [List.getElem?_eq_none (by omega)]
    intro c hc
    cases hc
theorem set_cs {s : SM} (h : s.Cs) (i : Nat) (l : List Int) (hl : ∀ c ∈ l, isChar c = true) : ∀ r ∈ s.rows.set i l, ∀ c ∈ r, isChar c = true := fun r hr => by
  rcases mem_set hr with h1 | h1
  · exact h r h1
  · rw [h1]; exact hl
theorem show_cs {s : SM} (h : s.Cs) (c : Int) (hc : isChar c = true) : (s.show c).Cs := by
  refine set_cs h s.row _ (fun x hx => ?_)
  rcases showL_mem hx with h1 | h1 | h1
  · exact h.row x h1
  · rw [h1]; decide
  · rw [h1]; exact hc
theorem cut_cs {s : SM} (h : s.Cs) : s.cut.Cs := set_cs h s.row _ (fun x hx => h.row x (List.mem_of_mem_take hx))
theorem seq_cs {s : SM} (h : s.Cs) (t : List UInt8) : (s.seq t).1.Cs := by
  unfold SM.seq
  split
  · exact cut_cs h
  · split
    · exact h
    · split
      · exact h
      · split
        · exact h
        · exact h
theorem line_cs {s : SM} (h : s.Cs) : s.line.Cs := by
  intro l hl
  have hl' : l ∈ (if s.row + 1 = s.rows.length then s.rows ++ [[]] else s.rows) := hl
  split at hl'
  · rcases List.mem_append.1 hl' with h1 | h1
    · exact h l h1
    · rw [List.mem_singleton.1 h1]
      intro c hc
      cases hc
  · exact h l hl'
theorem char_cs {s : SM} (h : s.Cs) (c : Int) : (s.char c).1.Cs := by
  unfold SM.char
  split
  · rename_i hp
    exact show_cs h c (prnS_char hp)
  · split
    · exact h
    · split
      · exact line_cs h
      · split
        · exact h
        · exact h
theorem odds_cs {p : SM × Bool} (h : p.1.Cs) (n : Nat) : (SM.odds p n).Cs := by
  unfold SM.odds
  split
  · exact h
  · exact h
theorem step_cs {s : SM} (h : s.Cs) : s.step.1.Cs := by
  unfold SM.step
  split
  · split
    · exact h
    · exact odds_cs (seq_cs h _) _
  · split
    · exact h
    · refine odds_cs ?_ _
      split
      · exact char_cs h _
      · exact h
theorem run_cs : ∀ (k : Nat) (s : SM), s.Cs → (SM.run k s).Cs
  | 0, s, h => h
  | k + 1, s, h => by
    rw [SM.run_succ]
    split
    · exact h
    · split
      · exact step_cs h
      · exact run_cs k _ (step_cs h)
theorem feed_cs {s : SM} (h : s.Cs) (l : List Int) : (s.feed l).Cs := run_cs _ _ h
theorem fresh_cs : SM.fresh.Cs := fun l hl c hc => by
  rw [List.mem_singleton.1 hl] at hc
  cases hc
/-- What is known while the two are looked at. -/
theorem sameS {wb w : World} {gs gd n : Nat} {S : SM} {F : Nat → Prop} {A : Option Addr} {cap : Nat} {vs : List Value} (h : Scr w gs S F) (hd : SeeX wb w gd (S.put []) (.slice A S.rows.length cap) vs) :
    w.cell? ⟨gd, 0, none⟩ = some (.slice A S.rows.length cap) ∧ w.cell? ⟨gd, 1, none⟩ = some (.int .i64 S.row) ∧ w.cell? ⟨gd, 2, none⟩ = some (.int .i64 S.col) ∧ w.cell? ⟨gd, 3, none⟩ = some (.int .i64 S.bells) ∧ w.cell? ⟨gd, 4, none⟩ = some (.bool S.pastes) ∧ w.cell? ⟨gd, 5, none⟩ = some (.int .i64 S.odd) ∧ Scr w gs S F ∧ SeeX wb w gd (S.put []) (.slice A S.rows.length cap) vs :=
  ⟨(blk_cell hd.me 0).trans rfl, (blk_cell hd.me 1).trans rfl, (blk_cell hd.me 2).trans rfl, (blk_cell hd.me 3).trans rfl, (blk_cell hd.me 4).trans rfl, (blk_cell hd.me 5).trans rfl, h, hd⟩
theorem sameKeep {wb w W : World} {gs gd : Nat} {S : SM} {F : Nat → Prop} {A : Option Addr} {cap : Nat} {vs : List Value}
    (h : w.cell? ⟨gd, 0, none⟩ = some (.slice A S.rows.length cap) ∧ w.cell? ⟨gd, 1, none⟩ = some (.int .i64 S.row) ∧ w.cell? ⟨gd, 2, none⟩ = some (.int .i64 S.col) ∧ w.cell? ⟨gd, 3, none⟩ = some (.int .i64 S.bells) ∧ w.cell? ⟨gd, 4, none⟩ = some (.bool S.pastes) ∧ w.cell? ⟨gd, 5, none⟩ = some (.int .i64 S.odd) ∧ Scr w gs S F ∧ SeeX wb w gd (S.put []) (.slice A S.rows.length cap) vs) (hb : Below w.heap.size w W) :
    W.cell? ⟨gd, 0, none⟩ = some (.slice A S.rows.length cap) ∧ W.cell? ⟨gd, 1, none⟩ = some (.int .i64 S.row) ∧ W.cell? ⟨gd, 2, none⟩ = some (.int .i64 S.col) ∧ W.cell? ⟨gd, 3, none⟩ = some (.int .i64 S.bells) ∧ W.cell? ⟨gd, 4, none⟩ = some (.bool S.pastes) ∧ W.cell? ⟨gd, 5, none⟩ = some (.int .i64 S.odd) ∧ Scr W gs S F ∧ SeeX wb W gd (S.put []) (.slice A S.rows.length cap) vs :=
  sameS (n := 0) (h.2.2.2.2.2.2.1.below hb) (h.2.2.2.2.2.2.2.below hb)
theorem sameScr {wb w : World} {gs gd : Nat} {S : SM} {F : Nat → Prop} {A : Option Addr} {cap : Nat} {vs : List Value} {a b c d e f : Prop}
    (h : a ∧ b ∧ c ∧ d ∧ e ∧ f ∧ Scr w gs S F ∧ SeeX wb w gd (S.put []) (.slice A S.rows.length cap) vs) : Scr w gs S F := h.2.2.2.2.2.2.1
set_option maxHeartbeats 4000000 in
set_option maxRecDepth 100000 in
theorem same_ok (wb w : World) (gs gd n : Nat) (S : SM) (F : Nat → Prop) (vr : Value) (vs : List Value) (h : Scr w gs S F) (hf : S.Fine n) (hn : n ≤ 100000) (hcs : S.Cs) (hd : SeeX wb w gd (S.put []) vr vs) :
    Calls Tryd.prog 21 #[.pointer (some ⟨gs, 0, none⟩), .pointer (some ⟨gd, 0, none⟩)] w fun e w' => e = .returned (.bool true) ∧ Below wb.heap.size wb w' := by
  have hvn : vs.length = S.rows.length := hd.n
  have hrow0 := hf.row
  obtain ⟨br, or_, cap, rfl, hc1, hc2, _, _, _⟩ := hd.rs.form (by intro e; rw [e] at hvn; simp at hvn; omega)
  rw [hvn] at hd
  have hVN := Aside0.mk hvn
  obtain ⟨A, hA⟩ : ∃ A : Option Addr, A = some ⟨br, or_, none⟩ := ⟨_, rfl⟩
  rw [← hA] at hd
  have hAA := Aside0.mk hA
  clear hA hvn hrow0 hc1 hc2
  have Q := Aside0.mk (sameS (n := n) h hd)
  have hpl := place_ok w gs S F h
  clear h
  go_enter Tryd.func21, Tryd.ntmps21
  go_wp2_with (fail)
  refine hpl.mono ?_
  rintro e w1 ⟨rfl, hb1⟩
  have Q1 := sameKeep Q.out hb1
  clear Q hb1 hpl hd
  go_wp2_with (fail)
  go_region_held3 (fun w' => w'.cell? ⟨gd, 0, none⟩ = some (.slice A S.rows.length cap) ∧ w'.cell? ⟨gd, 1, none⟩ = some (.int .i64 S.row) ∧ w'.cell? ⟨gd, 2, none⟩ = some (.int .i64 S.col) ∧ w'.cell? ⟨gd, 3, none⟩ = some (.int .i64 S.bells) ∧ w'.cell? ⟨gd, 4, none⟩ = some (.bool S.pastes) ∧ w'.cell? ⟨gd, 5, none⟩ = some (.int .i64 S.odd) ∧ Scr w' gs S F ∧ SeeX wb w' gd (S.put []) (.slice A S.rows.length cap) vs) (first | assumption | exact sameKeep (by assumption) (below_drew1 (Below.refl _ _)) | exact sameKeep (by assumption) (by assumption))
    (first | (go_at_call 20; refine (rows_ok _ gs S F (sameScr (by assumption))).mono ?_; rintro e w' ⟨rfl, hb⟩) | (go_at_call 15; refine (odd_ok _ gs S F (sameScr (by assumption))).mono ?_; rintro e w' ⟨rfl, hb⟩) | (go_at_call 24; refine (bells_ok _ gs S F (sameScr (by assumption))).mono ?_; rintro e w' ⟨rfl, hb⟩) | (go_at_call 25; refine (pastes_ok _ gs S F (sameScr (by assumption))).mono ?_; rintro e w' ⟨rfl, hb⟩))
  rename_i hH
  have HS := Aside0.mk (And.intro hH.2.2.2.2.2.2.1 hH.2.2.2.2.2.2.2)
  have m0 := hH.1
  clear hH Q1 hb
  generalize w' = W2 at *
  have hlb : S.rows.length ≤ n := hf.rows
  have hA2 := hAA.out
  subst hA2
  go_wp2_with (fail)
  go_loopw [76] (fun v76 wr => ∃ i : Nat, v76 = .int .i64 i ∧ Aside0 (i ≤ S.rows.length) ∧ Aside0 (Scr wr gs S F ∧ SeeX wb wr gd (S.put []) (.slice (some ⟨br, or_, none⟩) S.rows.length cap) vs)) (fun v76 _ => S.rows.length - (intOf v76).toNat)
  case atStart => exact ⟨0, rfl, ⟨Nat.zero_le _⟩, HS⟩
  case round =>
    clear HS m0
    obtain ⟨i, rfl, hi, HQ⟩ := hrel
    have hi0 := hi.out
    by_cases hlt : i < S.rows.length
    · have hltI : (i : Int) < (S.rows.length : Int) := by omega
      have hiv : i < vs.length := by rw [hVN.out]; exact hlt
      obtain ⟨br', or', cr', hv, h1, h2, h3, h4, h5⟩ := HQ.out.2.rs.form (by intro e; rw [e] at hiv; simp at hiv)
      injection hv with e1 e2 e3
      injection e1 with e1
      injection e1 with e1 e4
      subst e1; subst e4
      have hcell := h4 i _ (List.getElem?_eq_getElem hiv)
      have hin := HQ.out.2.inn i _ (List.getElem?_eq_getElem hiv)
      change IRow wr (vs[i]'hiv) ((S.rows.getD i []).map (.int .i64)) at hin
      obtain ⟨Ai, ci, hvi, hci, _⟩ := hin.slice
      rw [List.length_map] at hvi hci
      rw [hvi] at hin hcell
      have hHI := Aside0.mk hin
      have hr := row_ok wr gs S F n HQ.out.1 hf (by omega) i hlt
      have hll : (S.rows.getD i []).length ≤ n := by
        rw [List.getD_eq_getElem?_getD, List.getElem?_eq_getElem hlt]
        exact hf.len _ (List.getElem_mem hlt)
      have hch : ∀ x ∈ S.rows.getD i [], isChar x = true := by
        rw [List.getD_eq_getElem?_getD, List.getElem?_eq_getElem hlt]
        exact hcs _ (List.getElem_mem hlt)
      clear e2 e3 h1 h2 h3 h4 h5 hin hvi
      generalize S.rows.getD i [] = l at *
      go_wp2_with (fail)
      refine hr.mono ?_
      rintro e w4 ⟨rfl, hb4⟩
      have HQ4 := Aside0.mk (And.intro (HQ.out.1.below hb4) (HQ.out.2.below hb4))
      have ht := text14_ok Ai ci l w4 (C_of_irowS (hHI.out.below hb4)) hci (by omega) hch
      clear hb4 HQ hr
      go_wp2_with (fail)
      refine ht.mono ?_
      rintro e w5 ⟨rfl, hb5⟩
      have HQ5 := Aside0.mk (And.intro (HQ4.out.1.below hb5) (HQ4.out.2.below hb5))
      clear hb5 HQ4 ht
      go_wp2_with (fail)
      refine ⟨⟨i + 1, rfl, ⟨by omega⟩, HQ5⟩, ?_⟩
      simp [intOf]
      omega
    · have hltI : (S.rows.length : Int) ≤ (i : Int) := by omega
      have hE : i = S.rows.length := by omega
      subst hE
      have m0 : wr.cell? ⟨gd, 0, none⟩ = some (.slice (some ⟨br, or_, none⟩) S.rows.length cap) := (sameS (n := 0) HQ.out.1 HQ.out.2).1
      have hr := row_out wr gs S F HQ.out.1 (S.rows.length : Int) (.inr (by omega))
      go_wp2_with (fail)
      refine hr.mono ?_
      rintro e w4 ⟨rfl, hb4⟩
      have HQ4 := Aside0.mk (And.intro (HQ.out.1.below hb4) (HQ.out.2.below hb4))
      have hr4 := row_out w4 gs S F HQ4.out.1 (-1) (.inl (by omega))
      clear hb4 HQ hr m0
      go_wp2_with (fail)
      refine hr4.mono ?_
      rintro e w5 ⟨rfl, hb5⟩
      have HQ5 := Aside0.mk (HQ4.out.2.below hb5).b
      clear hb5 HQ4 hr4
      go_wp2_with (fail)
      go_ret
      exact ⟨rfl, HQ5.out⟩
end Go.Proofs.YtmdeehblmkpddaaDoor.Hand

namespace Go.Proofs.YtmdeehblmkpddaaDoor.Hand
open Go.RowKit Go.Deep Go.ChangeShapes Go.WideShapes Go.Proofs.YtmdeehblmkpddaaDoorW.PrintWords Go.Proofs.YtmdeehblmkpddaaDoorW.PrintLast
set_option linter.unusedVariables false
set_option linter.unusedSimpArgs false
/-- Rows of bytes, each row a slice. -/
def RowsIn (w : World) (a : Option Addr) (R : List (List Int)) : Prop :=
  ∀ r, r < R.length → ∃ (a' : Addr) (A : Option Addr) (c : Nat), a = some a' ∧ w.cell? (a'.add r) = some (.slice A (R.getD r []).length c) ∧ (R.getD r []).length ≤ c ∧ Kd.C (Kd.int .u8) w A (R.getD r []).length (R.getD r []) ∧ (∀ x ∈ R.getD r [], 0 ≤ x ∧ x ≤ 255) ∧ (R.getD r []).length ≤ 140737488355328
theorem weightsAll_mem {H : Type} {P : Program} {e : TypeId} : ∀ {ds : List (DataW H)} {d : DataW H}, d ∈ ds → ∀ n ∈ d.weights P e, n ∈ DataW.weightsAll P e ds
  | d0 :: ds, d, hd, n, hn => by
    simp only [DataW.weightsAll, List.mem_append]
    rcases List.mem_cons.1 hd with rfl | hd
    · exact .inl hn
    · exact .inr (weightsAll_mem hd n hn)
  | [], _, hd, _, _ => by cases hd
/-- An argument that is a slice of slices of bytes, opened. -/
theorem rows_of_trod {H : Type} {enc : TypeId × Value → H} {P : Program} {W : World} {held : Bool} {t e q : TypeId} {a : Option Addr} {len cap : Nat} {d : DataW H} {ps : List MemPlace} {ts : List TypeId} {ds : List (DataW H)} {j : Nat}
    (hsz : (DataW.weightsEach P ts ds).all (· ≤ reachBytes) = true) (ht : ts[j]? = some t) (hd : ds[j]? = some d) (hu : P.underlying t = some (.slice e)) (he : P.underlying e = some (.slice q)) (hq : P.underlying q = some (.int .u8)) (ce : P.cellsOf e = 1) (cq : P.cellsOf q = 1) (hB : P.bytesOf q = 1)
    (h : DataW.Trod enc P W 0 (fun _ => true) held t (.slice a len cap) d ps) : ∃ R : List (List Int), R.length = len ∧ R.length ≤ 9223372036854775807 ∧ RowsIn W a R := by
  obtain ⟨fuel, hf⟩ := h
  rcases open_int_rows hu he hq ce cq hf with ⟨hcs, _⟩ | ⟨a', len', cap', A, L, C, Z, hcs, _, hl, hm, hx, hr⟩
  · simp [Value.cells] at hcs
    obtain ⟨rfl, rfl, rfl⟩ := hcs
    exact ⟨[], rfl, Nat.zero_le _, fun r hr => absurd hr (Nat.not_lt_zero _)⟩
  · simp [Value.cells] at hcs
    obtain ⟨rfl, rfl, rfl⟩ := hcs
    obtain ⟨hx, _⟩ := Prod.mk.inj hx
    have hlm : len ≤ 9223372036854775807 := by unfold maxLen at hm; omega
    refine ⟨(List.range len).map fun r => (Z r).take (L r), by simp, by simpa using hlm, fun r hrl => ?_⟩
    have hrl' : r < len := by simpa using hrl
    have eg : ((List.range len).map fun r => (Z r).take (L r)).getD r [] = (Z r).take (L r) := by
      rw [List.getD_eq_getElem?_getD, List.getElem?_map, List.getElem?_range hrl']
      rfl
    obtain ⟨c1, c2, c3, c4, c5, c6, c7⟩ := hr r (by omega)
    have hlen : ((Z r).take (L r)).length = L r := by rw [List.length_take, c4]; omega
    have hCm : C r ≤ 9223372036854775807 := by unfold maxLen at c3; omega
    rw [eg, hlen]
    refine ⟨a', A r, C r, rfl, c1, c2, ?_, fun x hx2 => wf_u8' (c5 x (List.mem_of_mem_take hx2)), ?_⟩
    · refine Kd.C_of_reads (d := (0 : Int)) ⟨hlen, by omega, fun hn => ?_⟩
      cases hA : A r with
      | none => have := c6 hA; omega
      | some ad =>
        refine ⟨ad, rfl, fun i hi => ?_⟩
        rw [(c7 ad hA).2 i (by omega)]
        congr 2
        rw [List.getD_eq_getElem?_getD, List.getD_eq_getElem?_getD, List.getElem?_take, if_pos hi]
    · cases hA : A r with
      | none => have := c6 hA; omega
      | some ad =>
        have hmem : intRow (H := H) .u8 (A r) (L r) (Z r) ∈ (List.range len).map fun r => intRow (H := H) .u8 (A r) (L r) (Z r) := List.mem_map.2 ⟨r, List.mem_range.2 hrl', rfl⟩
        have hw : (Z r).length ∈ (intRow (H := H) .u8 (A r) (L r) (Z r)).weights P e := by
          rw [hA]
          unfold intRow
          simp [DataW.weights, he, hB, lits]
          omega
        have h1 := weightsAll_mem (P := P) hmem _ hw
        have h2 : (Z r).length ∈ d.weights P t := by
          rw [hx]
          simp only [DataW.weights, hu, List.mem_cons, List.mem_append]
          exact .inr (.inl h1)
        have h3 := List.all_eq_true.1 hsz _ (DataW.weights_mem_each ht hd _ h2)
        have h4 := reachBytes_lt
        have h5 : (Z r).length ≤ reachBytes := by simpa using h3
        omega
def flat (R : List (List Int)) (i : Nat) : List Int := (R.take i).flatten
theorem flat_succ (R : List (List Int)) (i : Nat) (h : i < R.length) : flat R (i + 1) = flat R i ++ R.getD i [] := by
  unfold flat
  rw [List.take_succ_eq_append_getElem h, List.flatten_append, List.getD_eq_getElem?_getD, List.getElem?_eq_getElem h]
  simp
theorem flat_le (R : List (List Int)) (i : Nat) : (flat R i).length ≤ (flat R R.length).length := by
  unfold flat
  rw [List.take_length]
  have : (R.take i).flatten ++ (R.drop i).flatten = R.flatten := by rw [← List.flatten_append, List.take_append_drop]
  rw [← this, List.length_append]
  omega
/-- A screen, and what was fed to it. -/
def ShRel (w0 wr : World) (g : Nat) (X : List Int) (v : Value) : Prop :=
  ∃ F, On w0 wr g (SM.fresh.feed X) (1 + X.length) F ∧ IRow wr v (X.map (.int .u8)) ∧ ∀ k, v.ownBlock = some k → ¬ F k ∧ w0.heap.size ≤ k
theorem ShRel.below {w0 wr W : World} {g : Nat} {X : List Int} {v : Value} (h : ShRel w0 wr g X v) (hb : Below wr.heap.size wr W) : ShRel w0 W g X v := by
  obtain ⟨F, h1, h2, h3⟩ := h
  exact ⟨F, h1.below hb, h2.below hb, h3⟩
theorem ShRel.b {w0 wr : World} {g : Nat} {X : List Int} {v : Value} (h : ShRel w0 wr g X v) : Below w0.heap.size w0 wr := by
  obtain ⟨F, h1, h2, h3⟩ := h
  exact h1.G.b
theorem ShRel.row {w0 wr : World} {g : Nat} {X : List Int} {v : Value} (h : ShRel w0 wr g X v) : IRow wr v (X.map (.int .u8)) := by
  obtain ⟨F, h1, h2, h3⟩ := h
  exact h2
/-- Fed, not yet in the row. -/
def ShFed (w0 wr : World) (g : Nat) (X b : List Int) (v : Value) : Prop :=
  ∃ F, On w0 wr g (SM.fresh.feed (X ++ b)) (1 + (X ++ b).length) F ∧ IRow wr v (X.map (.int .u8)) ∧ ∀ k, v.ownBlock = some k → ¬ F k ∧ w0.heap.size ≤ k
theorem ShFed.row {w0 wr : World} {g : Nat} {X b : List Int} {v : Value} (h : ShFed w0 wr g X b v) : IRow wr v (X.map (.int .u8)) := by
  obtain ⟨F, h1, h2, h3⟩ := h
  exact h2
theorem ShFed.b {w0 wr : World} {g : Nat} {X b : List Int} {v : Value} (h : ShFed w0 wr g X b v) : Below w0.heap.size w0 wr := by
  obtain ⟨F, h1, h2, h3⟩ := h
  exact h1.G.b
theorem ShRel.feed {w0 wr : World} {g : Nat} {X b : List Int} {v : Value} (h : ShRel w0 wr g X v) (HT : TabS w0) (A : Option Addr) (c : Nat) (hr : Kd.C (Kd.int .u8) wr A b.length b) (hc : b.length ≤ c) (hb : ∀ x ∈ b, 0 ≤ x ∧ x ≤ 255) (hn : X.length + b.length ≤ 10000) :
    Calls Tryd.prog 12 #[.pointer (some ⟨g, 0, none⟩), .slice A b.length c] wr fun e w' => e = .returned (.int .i64 0) ∧ ShFed w0 w' g X b v := by
  obtain ⟨F, h1, h2, h3⟩ := h
  refine (feed_on h1 HT.n HT.u A c b hr hc hb (by omega)).mono ?_
  rintro e w' ⟨rfl, hs, hm⟩
  rw [feed_app] at hs
  refine ⟨rfl, _, by rw [List.length_append, ← Nat.add_assoc]; exact hs, h2.kept (fun k e => hm.block k (h2.lt k e) (h3 k e).1) hm.size, fun k e => ⟨fun hk => ?_, (h3 k e).2⟩⟩
  rcases hk with hk | hk
  · exact (h3 k e).1 hk
  · have := h2.lt k e; omega
theorem ShFed.grown {w0 wr W : World} {g : Nat} {X b : List Int} {v v' : Value} (h : ShFed w0 wr g X b v) (hown : IRow W v' ((X ++ b).map (.int .u8))) (hg : wr.grownBy W v.ownBlock) (hbl : v'.ownBlock = v.ownBlock ∨ v'.ownBlock = some wr.heap.size) : ShRel w0 W g (X ++ b) v' := by
  obtain ⟨F, h1, h2, h3⟩ := h
  have hm : Mod (fun k => v.ownBlock = some k) wr W := Mod.ofGrown hg (fun k e => e)
  have hG : Gr w0 wr (fun k => v.ownBlock = some k) := ⟨h1.G.b, fun k e => (h3 k e).2⟩
  refine ⟨F, h1.apart hm (fun k hk e => (h3 k e).1 hk) hG, hown, fun k e => ?_⟩
  rcases hbl with e2 | e2
  · rw [e2] at e; exact h3 k e
  · rw [e2] at e
    obtain rfl := Option.some.inj e
    exact ⟨fun hk => by have := h1.x.lt _ hk; omega, h1.G.b.size⟩
set_option maxHeartbeats 4000000 in
set_option maxRecDepth 100000 in
theorem ScreenShows_walk (a0 : Option Addr) (cap0 : Nat) (R : List (List Int)) (w : World) (HT : TabS w) (h0 : R.length ≤ 9223372036854775807) (hR : RowsIn w a0 R) :
    Calls Tryd.prog 5 #[.slice a0 R.length cap0] w fun e w' => e = .returned (.bool true) ∧ Below w.heap.size w w' := by
  obtain ⟨i0, hi, hz0, hz1, hz2⟩ := info_parts info_u8
  have HR := Aside0.mk hR
  clear hR
  go_enter Tryd.func5, Tryd.ntmps5
  go_wp2_with (fail)
  refine (new_ok w).mono ?_
  rintro e w1 ⟨g, rfl, hs1, hb1⟩
  have S1 := Aside0.mk (show ShRel w w1 g [] (.slice none 0 0) from ⟨_, On.new (Below.refl _ w) hs1 hb1, .inl ⟨rfl, rfl⟩, fun k e => by cases e⟩)
  clear hs1 hb1
  go_wp2_with (fail)
  go_loopw [4, 13] (fun v4 v13 wr => ∃ (i : Nat) (m : Int), v13 = .int .i64 i ∧ v4 = .int .i64 m ∧ Aside0 (i ≤ R.length) ∧ Aside0 (R.length ≤ 60 → m = ((flat R i).length : Nat) ∧ (flat R i).length ≤ i * 140737488355328) ∧ Aside0 (ShRel w wr g [] (.slice none 0 0))) (fun _ v13 _ => R.length - (intOf v13).toNat)
  case atStart => exact ⟨0, 0, rfl, rfl, ⟨Nat.zero_le _⟩, ⟨fun _ => ⟨rfl, Nat.zero_le _⟩⟩, S1⟩
  case round =>
    clear S1
    obtain ⟨i, m, rfl, rfl, hi', hm, hS⟩ := hrel
    have hi0' := hi'.out
    by_cases hlt : i < R.length
    · have hltI : (i : Int) < (R.length : Int) := by omega
      obtain ⟨ad, A, c, rfl, q1, q2, q3, q4, q5⟩ := HR.out i hlt
      have q1' := cell_stays q1 hS.out.b
      have hfs := Aside0.mk (flat_succ R i hlt)
      clear q1 q2 q3 q4
      generalize R.getD i [] = b at *
      have hwi : IntKind.i64.wrap ((i : Int) + 1) = (i : Int) + 1 := by unfold IntKind.wrap; simp [IntKind.bits]; omega
      go_wp2_with (fail)
      refine ⟨⟨i + 1, _, by rw [Int.natCast_add]; rfl, rfl, ⟨by omega⟩, ⟨fun h60 => ?_⟩, hS⟩, ?_⟩
      · obtain ⟨e1, e2⟩ := hm.out h60
        rw [hfs.out, List.length_append]
        refine ⟨?_, by omega⟩
        rw [e1]
        first
          | (unfold IntKind.wrap; simp [IntKind.bits]; omega)
          | (unfold wrap64; omega)
      · simp [intOf]
        omega
    · have hltI : (R.length : Int) ≤ (i : Int) := by omega
      have hE : i = R.length := by omega
      subst hE
      have ha := HT.below hS.out.b
      have hal := alive_ok wr ha.n ha.u
      go_wp2_with (fail)
      refine hal.mono ?_
      rintro e w2 ⟨rfl, hb2⟩
      have S2 := Aside0.mk (hS.out.below hb2)
      clear hS hb2 hal ha
      by_cases hbad : 60 < R.length ∨ 1500 < m
      · have hgo : (60 : Int) < (R.length : Int) ∨ ((R.length : Int) ≤ 60 ∧ 1500 < m) := by omega
        have ha := HT.below S2.out.b
        have hal := alive_ok w2 ha.n ha.u
        rcases hgo with k1 | ⟨k1, k2⟩
        all_goals
          go_wp2_with (fail)
          refine hal.mono ?_
          rintro e w3 ⟨rfl, hb3⟩
          have hfin := Aside0.mk (S2.out.below hb3).b
          clear hb3
          go_wp2_with (fail)
          go_ret
          exact ⟨rfl, hfin.out⟩
      · have k1 : (R.length : Int) ≤ 60 := by omega
        have k2 : m ≤ 1500 := by omega
        have hm2 := Aside0.mk (hm.out (by omega))
        have htot := Aside0.mk (show (flat R R.length).length ≤ 1500 by have := hm2.out.1; omega)
        have S3 := Aside0.mk (show ShRel w w2 g (flat R 0) (.slice none (flat R 0).length 0) from S2.out)
        clear hm hm2 S2
        go_wp2_with (fail)
        go_loopw [7, 40] (fun v7 v40 wr => ∃ (i : Nat) (A : Option Addr) (cap : Nat), v40 = .int .i64 i ∧ v7 = .slice A (flat R i).length cap ∧ Aside0 (i ≤ R.length) ∧ Aside0 ((flat R i).length ≤ cap) ∧ Aside0 (∀ x ∈ flat R i, 0 ≤ x ∧ x ≤ 255) ∧ Aside0 (ShRel w wr g (flat R i) (.slice A (flat R i).length cap))) (fun _ v40 _ => R.length - (intOf v40).toNat)
        case atStart => exact ⟨0, none, 0, rfl, rfl, ⟨Nat.zero_le _⟩, ⟨Nat.zero_le _⟩, ⟨fun x hx => by cases hx⟩, S3⟩
        case round =>
          clear S3
          obtain ⟨i, AX, cX, rfl, rfl, hi', hcX, hbX, hS⟩ := hrel
          have hi0' := hi'.out
          by_cases hlt : i < R.length
          · have hltI : (i : Int) < (R.length : Int) := by omega
            obtain ⟨ad, A, c, rfl, q1, q2, q3, q4, q5⟩ := HR.out i hlt
            have q1' := cell_stays q1 hS.out.b
            have HQ := Aside0.mk (And.intro q3 q4)
            have hfs := Aside0.mk (flat_succ R i hlt)
            have hle := flat_le R (i + 1)
            rw [hfs.out] at hle
            have hto := htot.out
            rw [List.length_append] at hle
            clear q1 q3 q4
            generalize R.getD i [] = b at *
            generalize flat R i = X at *
            go_wp2_with (fail)
            refine (hS.out.feed HT A c (C_later HQ.out.1 hS.out.b) q2 HQ.out.2 (by omega)).mono ?_
            rintro e w4 ⟨rfl, hF⟩
            have hF := Aside0.mk hF
            obtain ⟨Y, hY⟩ : ∃ Y : List Int, Aside0 (X ++ b = Y) := ⟨_, ⟨rfl⟩⟩
            have hbY := Aside0.mk (show ∀ x ∈ Y, 0 ≤ x ∧ x ≤ 255 from fun x hx => by
              rw [← hY.out] at hx
              rcases List.mem_append.1 hx with h | h
              · exact hbX.out x h
              · exact HQ.out.2 x h)
            have hlY : Y.length ≤ 1500 := by rw [← hY.out, List.length_append]; omega
            clear hS hbX
            go_wp2_with (at_builtin; refine wpList_append_irow _ rfl _ _ 22 22 rfl 5 i0 (.int .u8 0) 1 Tryd.underlying22 hi hz0 hz1 hz2 rfl rfl hF.out.row rfl b.length (b.map (.int .u8)) (Src_of (C_later HQ.out.1 hF.out.b) q2) (by rw [List.length_map]; unfold maxLen; omega) (by rw [List.length_map]; omega) ?_; intro v' w5 hown hgr hbl; rw [← List.map_append] at hown; have HG0 := hF.out.grown hown hgr hbl; rw [hY.out] at HG0 hown; obtain ⟨A', cap', hv', hcc, _⟩ := hown.slice; rw [List.length_map] at hv' hcc; subst hv'; have HG := Aside0.mk HG0; have hro := Aside0.mk hown; clear hown hgr hbl HG0 hF)
            refine (readS w5 A' cap' Y (C_of_irow hro.out) hcc hbY.out (by omega)).mono ?_
            rintro e w6 ⟨g2, vr, vs, rfl, hsee⟩
            have hG6 := HG.out.below hsee.b
            obtain ⟨F, k1, k2, k3⟩ := hG6
            have hsm := same_ok w5 w6 g g2 (1 + Y.length) (SM.fresh.feed Y) F vr vs k1.x k1.f.fine (by omega) (feed_cs fresh_cs Y) hsee
            clear k1 k2 k3 hsee hro
            go_wp2_with (fail)
            refine hsm.mono ?_
            rintro e w7 ⟨rfl, hb7⟩
            have HG7 := Aside0.mk (HG.out.below hb7)
            clear hsm hb7 HG
            go_wp2_with (fail)
            refine ⟨⟨i + 1, A', cap', rfl, by rw [hfs.out, hY.out], ⟨by omega⟩, ⟨by rw [hfs.out, hY.out]; exact hcc⟩, ⟨by rw [hfs.out, hY.out]; exact hbY.out⟩, ⟨by rw [hfs.out, hY.out]; exact HG7.out⟩⟩, ?_⟩
            simp [intOf]
            omega
          · have hltI : (R.length : Int) ≤ (i : Int) := by omega
            go_wp2_with (fail)
            go_ret
            exact ⟨rfl, hS.out.b⟩
end Go.Proofs.YtmdeehblmkpddaaDoor.Hand
