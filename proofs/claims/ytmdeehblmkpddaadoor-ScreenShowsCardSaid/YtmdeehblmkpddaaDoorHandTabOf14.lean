/- The law's examples, computed. -/
import Derived.Test.YtmdeehblmkpddaaDoorHandFeed14
import Derived.Test.YtmdeehblmkpddaaDoorPlainEsc
import Derived.Test.YtmdeehblmkpddaaDoorHandLit
import Derived.Lib.SlBytesConst
import Derived.Test.YtmdeehblmkpddaaDoorHandU8
import Derived.Shelf.Vars
import Derived.Test.YtmdeehblmkpddaaDoorWSized
namespace Go.Proofs.YtmdeehblmkpddaaDoor.Hand
open Go.RowKit
set_option maxRecDepth 100000 in
theorem alive_a : SM.fresh.feed [97, 98, 99, 13, 120, 27, 91, 75] = ⟨[[120]], 0, 1, [], 0, false, 0⟩ := by kernel_rfl
set_option maxRecDepth 100000 in
theorem alive_b : SM.fresh.feed [97, 98, 27, 91, 49, 68, 99] = ⟨[[97, 99]], 0, 2, [], 0, false, 0⟩ := by kernel_rfl
theorem text_a : runesBytes [120] = ⟨#[120]⟩ := by kernel_rfl
theorem text_b : runesBytes [97, 99] = ⟨#[97, 99]⟩ := by kernel_rfl
end Go.Proofs.YtmdeehblmkpddaaDoor.Hand

namespace Go.Proofs.YtmdeehblmkpddaaDoor.Hand
open Go.RowKit
set_option linter.unusedVariables false
set_option linter.unusedSimpArgs false
def SM.put (s : SM) (W : List Int) : SM := { s with wait := W }
theorem put_put (s : SM) (V W : List Int) : (s.put V).put W = s.put W := rfl
theorem put_wait (s : SM) (W : List Int) : (s.put W).wait = W := rfl
theorem put_same (s : SM) : s.put s.wait = s := rfl
theorem seq_put (s : SM) (W : List Int) (t : List UInt8) : (s.put W).seq t = ((s.seq t).1.put W, (s.seq t).2) := by
  unfold SM.seq
  by_cases h1 : t = tK
  · simp only [if_pos h1]; rfl
  · simp only [if_neg h1]
    by_cases h2 : t = tH
    · simp only [if_pos h2]; rfl
    · simp only [if_neg h2]
      by_cases h3 : t = tL
      · simp only [if_pos h3]; rfl
      · simp only [if_neg h3]
        by_cases h4 : backOk t = true
        · simp only [if_pos h4]; rfl
        · simp only [if_neg h4]
theorem char_put (s : SM) (W : List Int) (c : Int) : (s.put W).char c = ((s.char c).1.put W, (s.char c).2) := by
  unfold SM.char
  by_cases h1 : prn c = true
  · simp only [if_pos h1]; rfl
  · simp only [if_neg h1]
    by_cases h2 : c = 13
    · simp only [if_pos h2]; rfl
    · simp only [if_neg h2]
      by_cases h3 : c = 10
      · simp only [if_pos h3]; rfl
      · simp only [if_neg h3]
        by_cases h4 : c = 7
        · simp only [if_pos h4]; rfl
        · simp only [if_neg h4]
theorem odds_put (p : SM × Bool) (W : List Int) (K : Nat) : SM.odds (p.1.put W, p.2) K = (SM.odds p K).put W := by
  unfold SM.odds
  by_cases h : p.2 = true
  · simp only [if_pos h]
  · simp only [if_neg h]; rfl
theorem nextGo_two (l : List Int) : ∀ (d i : Nat) (o : Bool), (nextGo l d i o).2.1 = 0
  | 0, _, _ => rfl
  | d + 1, i, o => by
    rw [nextGo_succ]
    split
    · rfl
    · split
      · rfl
      · split
        · exact nextGo_two l d (i + 1) o
        · split
          · exact nextGo_two l d (i + 1) true
          · rfl
theorem nextL_two (l : List Int) : (nextL l).2.1 = 0 := by
  unfold nextL
  repeat' split
  · rfl
  · rfl
  · rfl
  · exact nextGo_two l _ _ _
theorem at0_app (l b : List Int) (i : Nat) (h : i < l.length) : at0 (l ++ b) i = at0 l i := by
  unfold at0
  rw [List.getD_eq_getElem?_getD, List.getD_eq_getElem?_getD, List.getElem?_append_left h]
theorem nxL_app (l b : List Int) (h0 : l ≠ []) (h : (nxL l).2.2 ≠ 7) : nxL (l ++ b) = nxL l := by
  have hp := List.length_pos_iff.2 h0
  have hne : l ++ b ≠ [] := by simp [h0]
  have a0 := at0_app l b 0 hp
  have hlen : (l ++ b).length = l.length + b.length := List.length_append
  unfold nxL at h ⊢
  rw [if_neg h0] at h ⊢
  rw [if_neg hne, hlen, a0]
  unfold nx at h ⊢
  by_cases c1 : at0 l 0 < 128
  · rw [if_pos c1, if_pos c1]
  · rw [if_neg c1] at h ⊢
    rw [if_neg c1]
    by_cases c2 : at0 l 0 < 194 ∨ 244 < at0 l 0
    · rw [if_pos c2, if_pos c2]
    · rw [if_neg c2] at h ⊢
      rw [if_neg c2]
      by_cases c3 : l.length < 2
      · rw [if_pos c3] at h; exact absurd rfl h
      · rw [if_neg c3] at h ⊢
        rw [if_neg (show ¬ l.length + b.length < 2 by omega), at0_app l b 1 (by omega)]
        by_cases c4 : at0 l 1 < nlo (at0 l 0) ∨ nhi (at0 l 0) < at0 l 1
        · rw [if_pos c4, if_pos c4]
        · rw [if_neg c4] at h ⊢
          rw [if_neg c4]
          by_cases c5 : at0 l 0 < 224
          · rw [if_pos c5, if_pos c5]
          · rw [if_neg c5] at h ⊢
            rw [if_neg c5]
            by_cases c6 : l.length < 3
            · rw [if_pos c6] at h; exact absurd rfl h
            · rw [if_neg c6] at h ⊢
              rw [if_neg (show ¬ l.length + b.length < 3 by omega), at0_app l b 2 (by omega)]
              by_cases c7 : at0 l 2 < 128 ∨ 191 < at0 l 2
              · rw [if_pos c7, if_pos c7]
              · rw [if_neg c7] at h ⊢
                rw [if_neg c7]
                by_cases c8 : at0 l 0 < 240
                · rw [if_pos c8, if_pos c8]
                · rw [if_neg c8] at h ⊢
                  rw [if_neg c8]
                  by_cases c9 : l.length < 4
                  · rw [if_pos c9] at h; exact absurd rfl h
                  · rw [if_neg c9] at h ⊢
                    rw [if_neg (show ¬ l.length + b.length < 4 by omega), at0_app l b 3 (by omega)]
theorem nextL_app (L t : List Int) (q m : Int) (h : nextL L = (q, 0, m, 0)) : nextL (L ++ t) = (q, 0, m, 0) := by
  rcases next_spec L with ⟨e, h1, _, h3, _⟩ | ⟨h1, _⟩ | ⟨q', m', h1, _, _, _, h5, _⟩
  · rw [h] at h1
    simp only [Prod.mk.injEq] at h1
    exact absurd h1.2.2.2.symm h3
  · rw [h] at h1
    simp only [Prod.mk.injEq] at h1
    exact absurd h1.2.2.2 (by decide)
  · rw [h] at h1
    rw [h5 t, ← h1]
theorem step_none {s : SM} (hw : s.wait ≠ []) (h : s.step.2 = 0) : s.step.1 = s := by
  unfold SM.step at h ⊢
  by_cases h27 : s.wait.getD 0 0 = 27
  · have := nextS_le hw h27
    rw [if_pos h27] at h ⊢
    by_cases h4 : (nextL s.wait).2.2.2 ≠ 0
    · rw [if_pos h4]
    · rw [if_neg h4] at h
      have h : (nextL s.wait).2.2.1.toNat = 0 := h
      omega
  · have := nxS_le hw
    rw [if_neg h27] at h ⊢
    by_cases h7 : (nxL s.wait).2.2 = 7
    · rw [if_pos h7]
    · rw [if_neg h7] at h
      have h : (nxL s.wait).2.1 = 0 := h
      omega
theorem step_app {s : SM} (hw : s.wait ≠ []) (h : s.step.2 ≠ 0) (b : List Int) : (s.put (s.wait ++ b)).step = (s.step.1.put (s.wait ++ b), s.step.2) := by
  have hp := List.length_pos_iff.2 hw
  have hg : (s.wait ++ b).getD 0 0 = s.wait.getD 0 0 := by
    rw [List.getD_eq_getElem?_getD, List.getD_eq_getElem?_getD, List.getElem?_append_left hp]
  unfold SM.step at h ⊢
  rw [put_wait, hg]
  by_cases h27 : s.wait.getD 0 0 = 27
  · have hle := nextS_le hw h27
    rw [if_pos h27] at h ⊢
    rw [if_pos h27]
    by_cases h4 : (nextL s.wait).2.2.2 ≠ 0
    · rw [if_pos h4] at h; exact absurd rfl h
    · have h4' : (nextL s.wait).2.2.2 = 0 := by omega
      have hsame : nextL (s.wait ++ b) = nextL s.wait := by
        have e : nextL s.wait = ((nextL s.wait).1, 0, (nextL s.wait).2.2.1, 0) := by
          conv => lhs; rw [show nextL s.wait = ((nextL s.wait).1, (nextL s.wait).2.1, (nextL s.wait).2.2.1, (nextL s.wait).2.2.2) from rfl, nextL_two, h4']
        have := nextL_app s.wait b _ _ e
        rw [this]
        exact e.symm
      rw [hsame, if_neg h4, if_neg h4]
      have htk : (s.wait ++ b).take (nextL s.wait).2.2.1.toNat = s.wait.take (nextL s.wait).2.2.1.toNat := List.take_append_of_le_length (by omega)
      rw [htk, seq_put, odds_put]
  · rw [if_neg h27] at h ⊢
    rw [if_neg h27]
    by_cases h7 : (nxL s.wait).2.2 = 7
    · rw [if_pos h7] at h; exact absurd rfl h
    · rw [nxL_app s.wait b hw h7, if_neg h7, if_neg h7]
      by_cases h0 : (nxL s.wait).2.2 = 0
      · rw [if_pos h0, if_pos h0, char_put, odds_put]
      · rw [if_neg h0, if_neg h0]
        rw [show (s.put (s.wait ++ b), false) = ((s, false).1.put (s.wait ++ b), (s, false).2) from rfl, odds_put]
/-- All that waits done. -/
def SM.all (s : SM) : SM := SM.run s.wait.length s
theorem all_app : ∀ (k : Nat) (s : SM), s.wait.length ≤ k → ∀ b : List Int, (s.all.put (s.all.wait ++ b)).all = (s.put (s.wait ++ b)).all
  | 0, s, h, b => by
    have h0 : s.wait = [] := List.eq_nil_of_length_eq_zero (by omega)
    have : s.all = s := run_end h0
    rw [this]
  | k + 1, s, h, b => by
    by_cases h0 : s.wait = []
    · have : s.all = s := run_end h0
      rw [this]
    · by_cases hz : s.step.2 = 0
      · have : s.all = s := (run_stop h0 hz).trans (step_none h0 hz)
        rw [this]
      · have h1 : s.all = (s.step.1.put (s.wait.drop s.step.2)).all := run_next h0 hz
        have hle := step_le h0
        have hl : (s.step.1.put (s.wait.drop s.step.2)).wait.length ≤ k := by
          show (s.wait.drop s.step.2).length ≤ k
          rw [List.length_drop]; omega
        rw [h1, all_app k _ hl b]
        have hne : (s.put (s.wait ++ b)).wait ≠ [] := by
          show s.wait ++ b ≠ []
          simp [h0]
        have hst := step_app h0 hz b
        have h2 : (s.put (s.wait ++ b)).all = ((s.put (s.wait ++ b)).step.1.put ((s.put (s.wait ++ b)).wait.drop (s.put (s.wait ++ b)).step.2)).all := run_next hne (by rw [hst]; exact hz)
        rw [h2, hst, put_wait, put_put]
        show (s.step.1.put (s.wait.drop s.step.2 ++ b)).all = (s.step.1.put ((s.wait ++ b).drop s.step.2)).all
        rw [List.drop_append_of_le_length hle]
theorem feed_all (s : SM) (b : List Int) : s.feed b = (s.put (s.wait ++ b)).all := by
  unfold SM.feed SM.all
  rw [put_wait, List.length_append]
  rfl
theorem feed_app (s : SM) (a b : List Int) : (s.feed a).feed b = s.feed (a ++ b) := by
  rw [feed_all, feed_all, feed_all]
  rw [all_app _ (s.put (s.wait ++ a)) (Nat.le_refl _) b, put_wait, put_put, List.append_assoc]
theorem feed_nil' {s : SM} (h : s.wait = []) : s.feed [] = s := by
  rw [feed_all, h]
  exact run_end (s := s.put ([] ++ [])) rfl |>.trans (by show s.put [] = s; rw [← h]; rfl)
/-- Fresh or fed: fed with nothing it stays. -/
theorem fresh_feed_nil : SM.fresh.feed [] = SM.fresh := rfl
/-- Its counts and what waits are at most N together. -/
def SM.Tight (s : SM) (N : Nat) : Prop := ∃ m, (s.put []).Fine m ∧ m + s.wait.length ≤ N ∧ ∀ x ∈ s.wait, 0 ≤ x ∧ x ≤ 255
theorem SM.Tight.fine {s : SM} {N : Nat} (h : s.Tight N) : s.Fine N := by
  obtain ⟨m, hf, hm, hb⟩ := h
  have := hf.up (show m ≤ N by omega)
  exact ⟨this.rows, this.row, this.col, this.len, by omega, this.bells, this.odd, this.runes, hb⟩
theorem fresh_tight : SM.fresh.Tight 1 := ⟨1, fresh_fine, by decide, fun x hx => by cases hx⟩
theorem step_tight {s : SM} {m : Nat} (h : (s.put []).Fine m) (hw : s.wait ≠ []) (hb : ∀ x ∈ s.wait, 0 ≤ x ∧ x ≤ 255) : (s.step.1.put []).Fine (m + s.step.2) := by
  unfold SM.step
  split
  · split
    · exact h
    · show ((SM.odds _ _).put []).Fine _
      rw [← odds_put, ← seq_put]
      exact odds_fine ((seq_fine h _).up (Nat.le_add_right _ _)) (by rw [seq_odd]; exact h.odd)
  · split
    · exact h
    · have hk := (nxS_le hw).1
      have hc := nxS_char hw hb
      show ((SM.odds _ _).put []).Fine _
      rw [← odds_put]
      split
      · rw [← char_put]
        exact odds_fine ((char_fine h _ (by omega) (by omega)).up (by show _ ≤ m + (nxL s.wait).2.1; omega)) (by rw [char_odd]; exact h.odd)
      · exact odds_fine (p := (s.put [], false)) (h.up (Nat.le_add_right _ _)) h.odd
theorem run_tight : ∀ (k : Nat) (s : SM) (N : Nat), s.Tight N → (SM.run k s).Tight N
  | 0, s, N, h => h
  | k + 1, s, N, h => by
    rw [SM.run_succ]
    split
    · exact h
    · rename_i h0
      obtain ⟨m, hf, hm, hb⟩ := h
      have hst := step_tight hf h0 hb
      have hle := step_le h0
      split
      · rename_i hz
        rw [step_none h0 hz]
        exact ⟨m, hf, hm, hb⟩
      · refine run_tight k _ N ⟨m + s.step.2, hst, ?_, fun x hx => hb x ?_⟩
        · show m + s.step.2 + (s.step.1.wait.drop s.step.2).length ≤ N
          rw [step_wait, List.length_drop]; omega
        · have hx : x ∈ s.step.1.wait.drop s.step.2 := hx
          rw [step_wait] at hx
          exact List.mem_of_mem_drop hx
theorem feed_tight {s : SM} {N : Nat} {l : List Int} (h : s.Tight N) (hb : ∀ x ∈ l, 0 ≤ x ∧ x ≤ 255) : (s.feed l).Tight (N + l.length) := by
  obtain ⟨m, hf, hm, hb2⟩ := h
  unfold SM.feed
  refine run_tight _ _ _ ⟨m, hf, ?_, fun x hx => ?_⟩
  · show m + (s.wait ++ l).length ≤ _
    rw [List.length_append]; omega
  · rcases List.mem_append.1 hx with hx | hx
    · exact hb2 x hx
    · exact hb x hx
end Go.Proofs.YtmdeehblmkpddaaDoor.Hand

namespace Go.Proofs.YtmdeehblmkpddaaDoor.Hand
open Go.RowKit Go.Proofs.YtmdeehblmkpddaaDoorW.PrintWords Go.Proofs.YtmdeehblmkpddaaDoorW.PrintLast
set_option linter.unusedVariables false
set_option linter.unusedSimpArgs false
/-- A screen in a walk that began at w0. -/
structure On (w0 w : World) (g : Nat) (s : SM) (n : Nat) (F : Nat → Prop) : Prop where
  x : Scr w g s F
  f : s.Tight n
  G : Gr w0 w F
theorem Gr.below {w0 w W : World} {F : Nat → Prop} (h : Gr w0 w F) (hb : Below w.heap.size w W) : Gr w0 W F := ⟨h.b.trans (hb.mono h.b.size), h.f⟩
theorem On.below {w0 w W : World} {g : Nat} {s : SM} {n : Nat} {F : Nat → Prop} (h : On w0 w g s n F) (hb : Below w.heap.size w W) : On w0 W g s n F := ⟨h.x.below hb, h.f, h.G.below hb⟩
theorem On.apart {w0 w W : World} {g : Nat} {s : SM} {n : Nat} {F F' : Nat → Prop} (h : On w0 w g s n F) (hm : Mod F' w W) (hd : ∀ b, F b → ¬ F' b) (hG : Gr w0 w F') : On w0 W g s n F := ⟨h.x.apart hm hd, h.f, ⟨(hG.mod hm).b, h.G.f⟩⟩
theorem On.new {w0 w W : World} {g : Nat} (hb0 : Below w0.heap.size w0 w) (h : Scr W g SM.fresh (Newer w W)) (hb : Below w.heap.size w W) : On w0 W g SM.fresh 1 (Newer w W) :=
  ⟨h, fresh_tight, ⟨hb0.trans (hb.mono hb0.size), fun b hb => Nat.le_trans hb0.size hb.1⟩⟩
theorem feed_on {w0 w : World} {g : Nat} {s : SM} {n : Nat} {F : Nat → Prop} (h : On w0 w g s n F) (HT : TabN w0) (HU : U8In w0) (A : Option Addr) (c : Nat) (l : List Int)
    (hr : Kd.C (Kd.int .u8) w A l.length l) (hc : l.length ≤ c) (hb : ∀ x ∈ l, 0 ≤ x ∧ x ≤ 255) (hn : n + l.length ≤ 20000) :
    Calls Tryd.prog 12 #[.pointer (some ⟨g, 0, none⟩), .slice A l.length c] w fun e w' => e = .returned (.int .i64 0) ∧ On w0 w' g (s.feed l) (n + l.length) (Fnew F w w') ∧ Mod F w w' := by
  refine (feed_ok w0 w g s F n A c l h.x h.f.fine h.G HT HU hr hc hb (by have := h.f.fine.wait; omega)).mono ?_
  rintro e w' ⟨rfl, hs, hm⟩
  exact ⟨rfl, ⟨hs, feed_tight h.f hb, h.G.mod hm⟩, hm⟩
/-- Fed with what has just been laid. -/
theorem feed_lit {w0 w : World} {g : Nat} {s : SM} {n : Nat} {F : Nat → Prop} (h : On w0 w g s n F) (HT : TabN w0) (HU : U8In w0) (c : Nat) (fr : Nat × Nat) (l : List Int)
    (hc : l.length ≤ c) (hb : ∀ x ∈ l, 0 ≤ x ∧ x ≤ 255) (hn : n + l.length ≤ 20000) :
    Calls Tryd.prog 12 #[.pointer (some ⟨g, 0, none⟩), .slice (some ⟨w.heap.size, 0, none⟩) l.length c] (w.alloc (.cells (l.map (Value.int .u8)).toArray 5 fr)) fun e w' => e = .returned (.int .i64 0) ∧ On w0 w' g (s.feed l) (n + l.length) (Fnew F w w') ∧ Mod F w w' := by
  have hb2 : Below w.heap.size w (w.alloc (.cells (l.map (Value.int .u8)).toArray 5 fr)) := (Below.refl _ w).alloc (Nat.le_refl _) _
  refine (feed_on (h.below hb2) HT HU _ c l (lit_reads w l 5 fr (by omega)) hc hb hn).mono ?_
  rintro e w' ⟨rfl, hs, hm⟩
  have hm2 : Mod F w w' := (Mod.ofBelow hb2).trans hm (fun _ _ h => h)
  refine ⟨rfl, ⟨hs.x.onto hb2.size h.x.lt hm2.size, hs.f, (h.G.mod hm2)⟩, hm2⟩
set_option maxRecDepth 100000 in
set_option maxHeartbeats 4000000 in
theorem alive_ok (w : World) (HT : TabN w) (HU : U8In w) : Calls Tryd.prog 11 #[] w fun e w' => e = .returned (.bool true) ∧ Below w.heap.size w w' := by
  have kc := fun (w : World) (C : Array Value) (n c : Nat) => Lib.run_convert_bytes_const (P := Tryd.prog) w 22 5 C n c Tryd.underlying22 Tryd.underlying5
  go_enter Tryd.func11, Tryd.ntmps11
  go_wp2_with (fail)
  refine (new_ok _).mono ?_
  rintro e w1 ⟨g1, rfl, hs1, hb1⟩
  have B1 := Aside0.mk hb1
  have S1 := Aside0.mk (On.new (Below.refl _ w) hs1 hb1)
  clear hb1 hs1
  go_wp2_with (fail)
  refine (new_ok _).mono ?_
  rintro e w2 ⟨g2, rfl, hs2, hb2⟩
  have S1' := Aside0.mk (S1.out.below hb2)
  have S2 := Aside0.mk (On.new B1.out hs2 hb2)
  have z2 := hb2.size
  have z1 := B1.out.size
  clear hb2 hs2
  go_wp2_with (fail)
  refine (feed_lit S1'.out HT HU 8 (8, 9) [97, 98, 99, 13, 120, 27, 91, 75] (by decide) (by decide) (by decide)).mono ?_
  rintro e w3 ⟨rfl, hs3, hm3⟩
  rw [alive_a] at hs3
  have S3 := Aside0.mk hs3
  have S4 := Aside0.mk (S2.out.apart hm3 (fun b h1 h2 => by have := h1.1; have := h2.2; omega) S1'.out.G)
  have z3 := hm3.size
  clear hs3 hm3
  go_wp2_with (fail)
  refine (feed_lit S4.out HT HU 7 (7, 8) [97, 98, 27, 91, 49, 68, 99] (by decide) (by decide) (by decide)).mono ?_
  rintro e w4 ⟨rfl, hs4, hm4⟩
  rw [alive_b] at hs4
  have S5 := Aside0.mk hs4
  have S6 := Aside0.mk (S3.out.apart hm4 (fun b h1 h2 => by
    rcases h1 with h1 | h1
    · have := h1.2; have := h2.1; omega
    · have := h1.1; have := h2.2; omega) S4.out.G)
  clear hs4 hm4
  go_wp2_with (fail)
  refine (place_ok _ _ _ _ S6.out.x).mono ?_
  rintro e w5 ⟨rfl, hb5⟩
  have S7 := Aside0.mk (S6.out.below hb5)
  have S8 := Aside0.mk (S5.out.below hb5)
  clear hb5
  go_wp2_with (fail)
  have R1 := rowS_ok w5 g1 _ _ _ S7.out.x S7.out.f.fine (by decide) 0 (by decide)
  rw [show runesBytes ((⟨[[120]], 0, 1, [], 0, false, 0⟩ : SM).rows.getD 0 []) = ⟨#[120]⟩ from text_a] at R1
  refine R1.mono ?_
  rintro e w6 ⟨rfl, hb6⟩
  have S9 := Aside0.mk (S8.out.below hb6)
  clear hb6 R1
  go_wp2_with (fail)
  have R2 := rowS_ok w6 g2 _ _ _ S9.out.x S9.out.f.fine (by decide) 0 (by decide)
  rw [show runesBytes ((⟨[[97, 99]], 0, 2, [], 0, false, 0⟩ : SM).rows.getD 0 []) = ⟨#[97, 99]⟩ from text_b] at R2
  refine R2.mono ?_
  rintro e w7 ⟨rfl, hb7⟩
  have S10 := Aside0.mk (S9.out.below hb7)
  clear hb7 R2
  go_wp2_with (fail)
  refine (odd_ok _ _ _ _ S10.out.x).mono ?_
  rintro e w8 ⟨rfl, hb8⟩
  have hfin := Aside0.mk (S10.out.below hb8).G.b
  clear hb8
  go_wp2_with (fail)
  go_ret
  exact ⟨rfl, hfin.out⟩
end Go.Proofs.YtmdeehblmkpddaaDoor.Hand

namespace Go.Proofs.YtmdeehblmkpddaaDoor.Hand
open Go.RowKit
set_option linter.unusedVariables false
set_option maxRecDepth 100000

theorem powType : (Tryd.prog.globals[3]?).map (·.type) = some 133 := by kernel_rfl
theorem cells64 : Tryd.prog.cellsOf 111 = 1 := by kernel_rfl
theorem cells20 : Tryd.prog.cellsOf 133 = 20 := by kernel_rfl
theorem esName : Tryd.prog.globalNamed "strconv.ErrSyntax" = some 4 := by kernel_rfl
theorem erName : Tryd.prog.globalNamed "strconv.ErrRange" = some 5 := by kernel_rfl
theorem esType : (Tryd.prog.globals[4]?).map (·.type) = some 118 := by kernel_rfl
theorem erType : (Tryd.prog.globals[5]?).map (·.type) = some 118 := by kernel_rfl
structure TabS (w : World) : Prop where
  n : TabN w
  u : U8In w
theorem TabS.below {w W : World} (h : TabS w) (hb : Below w.heap.size w W) : TabS W := ⟨h.n.below hb, h.u.below hb⟩
theorem tabS_of {W : World} {l : List (String × DataW Unit)} (h : laidMet Tryd.prog l W) (h1 : ("unicode/utf8.first", Rows.laid_unicode_utf8_first) ∈ l) (h2 : ("unicode/utf8.acceptRanges", Rows.laid_unicode_utf8_acceptRanges) ∈ l) (h3 : ("internal/strconv.uint64pow10", Rows.laid_internal_strconv_uint64pow10) ∈ l)
    (h4 : ("strconv.ErrSyntax", Rows.laid_strconv_ErrSyntax) ∈ l) (h5 : ("strconv.ErrRange", Rows.laid_strconv_ErrRange) ∈ l) : TabS W :=
  ⟨⟨tab_of_reads gPow powType Tryd.underlying133 Tryd.underlying111 cells64 cells20 (reads_of_laid h h3), iface_of_reads esName esType Tryd.underlying118 (reads_of_laid h h4), iface_of_reads erName erType Tryd.underlying118 (reads_of_laid h h5)⟩, u8_of_laid h h1 h2⟩
theorem tab_of_screenNone {W : World} (h : laidMetH Tryd.prog Rows.screenNoneRow.laid W) (hs : W.ShapedOpen Tryd.prog) : TabS W := tabS_of h (by simp [Rows.screenNoneRow]) (by simp [Rows.screenNoneRow]) (by simp [Rows.screenNoneRow]) (by simp [Rows.screenNoneRow]) (by simp [Rows.screenNoneRow])
theorem tab_of_screenPieces {W : World} (h : laidMetH Tryd.prog Rows.screenPiecesRow.laid W) (hs : W.ShapedOpen Tryd.prog) : TabS W := tabS_of h (by simp [Rows.screenPiecesRow]) (by simp [Rows.screenPiecesRow]) (by simp [Rows.screenPiecesRow]) (by simp [Rows.screenPiecesRow]) (by simp [Rows.screenPiecesRow])
theorem tab_of_screenSigns {W : World} (h : laidMetH Tryd.prog Rows.screenSignsRow.laid W) (hs : W.ShapedOpen Tryd.prog) : TabS W := tabS_of h (by simp [Rows.screenSignsRow]) (by simp [Rows.screenSignsRow]) (by simp [Rows.screenSignsRow]) (by simp [Rows.screenSignsRow]) (by simp [Rows.screenSignsRow])
theorem tab_of_screenBacks {W : World} (h : laidMetH Tryd.prog Rows.screenBacksRow.laid W) (hs : W.ShapedOpen Tryd.prog) : TabS W := tabS_of h (by simp [Rows.screenBacksRow]) (by simp [Rows.screenBacksRow]) (by simp [Rows.screenBacksRow]) (by simp [Rows.screenBacksRow]) (by simp [Rows.screenBacksRow])
theorem tab_of_screenTyped {W : World} (h : laidMetH Tryd.prog Rows.screenTypedRow.laid W) (hs : W.ShapedOpen Tryd.prog) : TabS W := tabS_of h (by simp [Rows.screenTypedRow]) (by simp [Rows.screenTypedRow]) (by simp [Rows.screenTypedRow]) (by simp [Rows.screenTypedRow]) (by simp [Rows.screenTypedRow])
theorem tab_of_screenViews {W : World} (h : laidMetH Tryd.prog Rows.screenViewsRow.laid W) (hs : W.ShapedOpen Tryd.prog) : TabS W := tabS_of h (by simp [Rows.screenViewsRow]) (by simp [Rows.screenViewsRow]) (by simp [Rows.screenViewsRow]) (by simp [Rows.screenViewsRow]) (by simp [Rows.screenViewsRow])
theorem tab_of_screenShows {W : World} (h : laidMetH Tryd.prog Rows.screenShowsRow.laid W) (hs : W.ShapedOpen Tryd.prog) : TabS W := tabS_of h (by simp [Rows.screenShowsRow]) (by simp [Rows.screenShowsRow]) (by simp [Rows.screenShowsRow]) (by simp [Rows.screenShowsRow]) (by simp [Rows.screenShowsRow])
end Go.Proofs.YtmdeehblmkpddaaDoor.Hand

namespace Go.Proofs.YtmdeehblmkpddaaDoor.Hand
open Go.RowKit Go.Proofs.YtmdeehblmkpddaaDoorW.PrintWords Go.Proofs.YtmdeehblmkpddaaDoorW.PrintLast
set_option linter.unusedVariables false
set_option linter.unusedSimpArgs false
def Two (w0 w : World) (g1 : Nat) (s1 : SM) (n1 : Nat) (g2 : Nat) (s2 : SM) (n2 : Nat) : Prop := ∃ F1 F2, On w0 w g1 s1 n1 F1 ∧ On w0 w g2 s2 n2 F2 ∧ ∀ b, F1 b → ¬ F2 b
theorem Two.swap {w0 w : World} {g1 : Nat} {s1 : SM} {n1 g2 : Nat} {s2 : SM} {n2 : Nat} (h : Two w0 w g1 s1 n1 g2 s2 n2) : Two w0 w g2 s2 n2 g1 s1 n1 := by
  obtain ⟨F1, F2, h1, h2, h3⟩ := h
  exact ⟨F2, F1, h2, h1, fun b h4 h5 => h3 b h5 h4⟩
theorem Two.below {w0 w W : World} {g1 : Nat} {s1 : SM} {n1 g2 : Nat} {s2 : SM} {n2 : Nat} (h : Two w0 w g1 s1 n1 g2 s2 n2) (hb : Below w.heap.size w W) : Two w0 W g1 s1 n1 g2 s2 n2 := by
  obtain ⟨F1, F2, h1, h2, h3⟩ := h
  exact ⟨F1, F2, h1.below hb, h2.below hb, h3⟩
theorem Two.b {w0 w : World} {g1 : Nat} {s1 : SM} {n1 g2 : Nat} {s2 : SM} {n2 : Nat} (h : Two w0 w g1 s1 n1 g2 s2 n2) : Below w0.heap.size w0 w := by
  obtain ⟨F1, F2, h1, h2, h3⟩ := h
  exact h1.G.b
theorem Two.x1 {w0 w : World} {g1 : Nat} {s1 : SM} {n1 g2 : Nat} {s2 : SM} {n2 : Nat} (h : Two w0 w g1 s1 n1 g2 s2 n2) : ∃ F, On w0 w g1 s1 n1 F := by
  obtain ⟨F1, F2, h1, h2, h3⟩ := h
  exact ⟨F1, h1⟩
theorem two_feed {w0 w : World} {g1 : Nat} {s1 : SM} {n1 g2 : Nat} {s2 : SM} {n2 : Nat} (h : Two w0 w g1 s1 n1 g2 s2 n2) (HT : TabS w0) (A : Option Addr) (c : Nat) (l : List Int)
    (hr : Kd.C (Kd.int .u8) w A l.length l) (hc : l.length ≤ c) (hb : ∀ x ∈ l, 0 ≤ x ∧ x ≤ 255) (hn : n1 + l.length ≤ 20000) :
    Calls Tryd.prog 12 #[.pointer (some ⟨g1, 0, none⟩), .slice A l.length c] w fun e w' => e = .returned (.int .i64 0) ∧ Two w0 w' g1 (s1.feed l) (n1 + l.length) g2 s2 n2 := by
  obtain ⟨F1, F2, h1, h2, h3⟩ := h
  refine (feed_on h1 HT.n HT.u A c l hr hc hb hn).mono ?_
  rintro e w' ⟨rfl, hs, hm⟩
  refine ⟨rfl, _, F2, hs, h2.apart hm (fun b h4 h5 => h3 b h5 h4) h1.G, fun b h4 h5 => ?_⟩
  rcases h4 with h4 | h4
  · exact h3 b h4 h5
  · have := h2.x.lt b h5
    omega
theorem wf_u8' {n : Int} (h : (Lit.int .u8 n).wf = true) : 0 ≤ n ∧ n ≤ 255 := by
  have h1 : (decide (IntKind.u8.min ≤ n) && decide (n ≤ IntKind.u8.max)) = true := h
  have e1 : IntKind.u8.min = 0 := by decide
  have e2 : IntKind.u8.max = 255 := by decide
  rw [e1, e2] at h1
  simpa using h1
theorem C_later {w W : World} {k : IntKind} {A : Option Addr} {n : Nat} {l : List Int} (h : Kd.C (Kd.int k) w A n l) (hb : Below w.heap.size w W) : Kd.C (Kd.int k) W A n l :=
  Kd.C_of_reads (d := (0 : Int)) ((Kd.reads_of_C (d := (0 : Int)) h).below hb)
/-- A row that came in. -/
theorem row_in {w : World} {k : IntKind} {a : Option Addr} {len cap : Nat} {zs : List Int} (h : (a = none ∧ len = 0 ∧ cap = 0 ∧ zs = []) ∨ ∃ x, a = some x ∧ len ≤ cap ∧ cap ≤ maxLen ∧ zs.length = cap ∧ (∀ i, i < zs.length → w.cell? (x.add i) = some (.int k (zs.getD i 0))) ∧ ∀ n ∈ zs, (Lit.int k n).wf = true) :
    ∃ l : List Int, len = l.length ∧ Kd.C (Kd.int k) w a l.length l ∧ l.length ≤ cap ∧ cap ≤ maxLen ∧ (∀ x ∈ l, (Lit.int k x).wf = true) ∧ (a = none → cap = 0) := by
  obtain ⟨l, hl, hr, hm, hw⟩ := ReadsInt.ofRow h
  refine ⟨l, hl, Kd.C_of_reads (d := (0 : Int)) hr, ?_, ?_, hw, fun e => ?_⟩
  · rcases h with ⟨_, h1, h2, _⟩ | ⟨x, _, h1, h2, _⟩ <;> omega
  · rcases h with ⟨_, h1, h2, _⟩ | ⟨x, _, h1, h2, _⟩
    · rw [h2]; exact Nat.zero_le _
    · exact h2
  · rcases h with ⟨_, h1, h2, _⟩ | ⟨x, e2, h1, h2, _⟩
    · exact h2
    · rw [e] at e2; cases e2
theorem C_take {w : World} {k : IntKind} {A : Option Addr} {l : List Int} (h : Kd.C (Kd.int k) w A l.length l) (n : Nat) (hn : n ≤ l.length) : Kd.C (Kd.int k) w A (l.take n).length (l.take n) := by
  have h := Kd.reads_of_C (d := (0 : Int)) h
  refine Kd.C_of_reads (d := (0 : Int)) ⟨rfl, by have := h.2.1; rw [List.length_take]; omega, fun h0 => ?_⟩
  rw [List.length_take] at h0
  obtain ⟨a, e, hc⟩ := h.2.2 (by omega)
  refine ⟨a, e, fun j hj => ?_⟩
  rw [List.length_take] at hj
  rw [hc j (by omega)]
  rw [List.getD_eq_getElem?_getD, List.getD_eq_getElem?_getD, List.getElem?_take, if_pos (by omega)]
theorem C_drop {w : World} {k : IntKind} {a a' : Addr} {l : List Int} (h : Kd.C (Kd.int k) w (some a) l.length l) (n : Nat) (hn : n ≤ l.length) (ha : a' = a.add n ∨ l.length - n = 0) : Kd.C (Kd.int k) w (some a') (l.drop n).length (l.drop n) := by
  have h := Kd.reads_of_C (d := (0 : Int)) h
  refine Kd.C_of_reads (d := (0 : Int)) ⟨rfl, by have := h.2.1; rw [List.length_drop]; omega, fun h0 => ?_⟩
  rw [List.length_drop] at h0
  obtain ⟨a1, e, hc⟩ := h.2.2 (by omega)
  obtain rfl := Option.some.inj e
  refine ⟨a', rfl, fun j hj => ?_⟩
  rw [List.length_drop] at hj
  rcases ha with rfl | ha
  · have := hc (n + j) (by omega)
    rw [show (a.add n).add j = a.add (n + j) from by
      unfold Addr.add
      by_cases e1 : n = 0
      · subst e1; simp
      · by_cases e2 : j = 0
        · subst e2; simp
        · rw [if_neg e1, if_neg e2, if_neg (by omega)]
          simp [Nat.add_assoc]]
    rw [this]
    rw [List.getD_eq_getElem?_getD, List.getD_eq_getElem?_getD, List.getElem?_drop]
  · omega
end Go.Proofs.YtmdeehblmkpddaaDoor.Hand
