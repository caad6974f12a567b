/- whispererref13.Check. -/
import Derived.Test.YtoeaidhkohfaoaaDoorHandCheck
import Derived.Test.YtoeaidhkohfaoaaDoorPFinex3
namespace Go.Proofs.YtoeaidhkohfaoaaDoor.Hand
open Go.RowKit Go.Proofs.YtoeaidhkohfaoaaDoor.PFine Go.Proofs.YtoeaidhkohfaoaaDoorW.PrintWords Go.Proofs.YtoeaidhkohfaoaaDoorW.PrintLast
set_option linter.unusedVariables false
set_option linter.unusedSimpArgs false

def r13 (b : Bool) (s : ByteArray) (mode room : Int) : Int := if b = true then (if 256 < s.size then 10 else if mode < 0 ∨ 2 < mode then 9 else if room < 0 then 3 else 0) else 8
def ref13_Check.f (k : Nat) (a0_0 : ByteArray) (a0_1 a0_2 : Int) : Option Int :=
  if a0_0.size ≤ 9223372036854775807 then (whispererref11_Fine.f k (sb a0_0)).bind fun b => some (r13 b a0_0 a0_1 a0_2) else none
theorem ref13_Check.mono : ∀ a0 a1 a2 k, LeO (ref13_Check.f k a0 a1 a2) (ref13_Check.f (k + 1) a0 a1 a2) := by
  intro a0 a1 a2 k
  unfold ref13_Check.f
  split
  · exact LeO.bind (whispererref11_Fine.mono _ _) (fun _ => LeO.refl _)
  · exact LeO.refl _
def Ref13Ok (s : ByteArray) (mode room : Int) (w : World) (r : Int) : Prop := Calls Tryd.prog 12 #[.agg #[.string s, .int .i64 mode, .int .i64 room]] w fun e w' => e = .returned (.int .i64 r) ∧ Below w.heap.size w w'

set_option maxHeartbeats 2000000 in
set_option maxRecDepth 100000 in
theorem ref13_ok (k : Nat) (s : ByteArray) (mode room : Int) (hs : s.size ≤ 9223372036854775807) (b : Bool) (hf : whispererref11_Fine.f k (sb s) = some b) (w : World) :
    Ref13Ok s mode room w (r13 b s mode room) := by
  unfold Ref13Ok
  have hconv := fun (w : World) => Lib.run_convert_string_bytes (P := Tryd.prog) w 9 25 5 s Tryd.underlying9 Tryd.underlying25 Tryd.underlying5
  have b1 : Below w.heap.size w (w.alloc (.cells #[.string s, .int .i64 mode, .int .i64 room] 23)) := (Below.refl w.heap.size w).alloc (Nat.le_refl _) _
  have b2 := b1.trans ((bytes_below (w.alloc (.cells #[.string s, .int .i64 mode, .int .i64 room] 23)) 5 s).mono b1.size)
  have hblk := (Lib.bytesWorld_at_old (w.alloc (.cells #[.string s, .int .i64 mode, .int .i64 room] 23)) 5 s w.heap.size (by simp)).trans (heap_alloc_new w _)
  have hC := bytes_C (w.alloc (.cells #[.string s, .int .i64 mode, .int .i64 room] 23)) 5 s hs
  have hC' : Kd.C (Kd.int .u8) (Lib.bytesWorld (w.alloc (.cells #[.string s, .int .i64 mode, .int .i64 room] 23)) 5 s) (some ⟨w.heap.size + 1, 0, none⟩) (sb s).length (sb s) := by simpa using hC
  have hcap : s.size ≤ grownCap (w.alloc (.cells #[.string s, .int .i64 mode, .int .i64 room] 23)) s.size 0 5 := grownCap_ge _ _ _ _
  clear hC b1
  go_enter Tryd.func12, Tryd.ntmps12
  go_wp2_with (fail)
  generalize Lib.bytesWorld (w.alloc (.cells #[.string s, .int .i64 mode, .int .i64 room] 23)) 5 s = W at *
  generalize grownCap (w.alloc (.cells #[.string s, .int .i64 mode, .int .i64 room] 23)) s.size 0 5 = cap at *
  rw [← sb_length s] at hcap ⊢
  refine (whispererref11_Fine.calls k _ _ _ b _ hC' hcap hf).mono ?_
  rintro e w1 ⟨rfl, hb1⟩
  have k0 := cell_stays (blk_cell hblk 0) hb1
  have k1 := cell_stays (blk_cell hblk 1) hb1
  have k2 := cell_stays (blk_cell hblk 2) hb1
  have z := Aside0.mk (b2.trans (hb1.mono b2.size))
  clear hC' hcap hconv hb1 b2 hblk hf
  cases b with
  | false =>
    have E := Aside0.mk (show r13 false s mode room = 8 by unfold r13; rfl)
    go_wp2_with (fail)
    go_ret
    exact ⟨by rw [E.out]; rfl, z.out⟩
  | true =>
    by_cases h1 : 256 < s.size
    · have h1' : (256 : Int) < (s.size : Int) := by omega
      have E := Aside0.mk (show r13 true s mode room = 10 by unfold r13; rw [if_pos rfl, if_pos h1])
      clear h1
      go_wp2_with (fail)
      go_ret
      exact ⟨by rw [E.out]; rfl, z.out⟩
    · have g1 : decide ((256 : Int) < (s.size : Int)) = false := decide_eq_false (by omega)
      by_cases h2 : mode < 0
      · have E := Aside0.mk (show r13 true s mode room = 9 by unfold r13; rw [if_pos rfl, if_neg h1, if_pos (.inl h2)])
        clear h1
        go_wp2_with (fail)
        go_ret
        exact ⟨by rw [E.out]; rfl, z.out⟩
      · have g2 : decide (mode < 0) = false := decide_eq_false h2
        by_cases h3 : 2 < mode
        · have E := Aside0.mk (show r13 true s mode room = 9 by unfold r13; rw [if_pos rfl, if_neg h1, if_pos (.inr h3)])
          clear h1 h2
          go_wp2_with (fail)
          go_ret
          exact ⟨by rw [E.out]; rfl, z.out⟩
        · have g3 : decide (2 < mode) = false := decide_eq_false h3
          by_cases h4 : room < 0
          · have E := Aside0.mk (show r13 true s mode room = 3 by unfold r13; rw [if_pos rfl, if_neg h1, if_neg (by omega), if_pos h4])
            clear h1 h2 h3
            go_wp2_with (fail)
            go_ret
            exact ⟨by rw [E.out]; rfl, z.out⟩
          · have g4 : decide (room < 0) = false := decide_eq_false h4
            have E := Aside0.mk (show r13 true s mode room = 0 by unfold r13; rw [if_pos rfl, if_neg h1, if_neg (by omega), if_neg h4])
            clear h1 h2 h3 h4
            go_wp2_with (fail)
            go_ret
            exact ⟨by rw [E.out]; rfl, z.out⟩
theorem ref13_Check.calls (k : Nat) (a0_0 : ByteArray) (a0_1 a0_2 : Int) (r : Int) (w : World) (h : ref13_Check.f k a0_0 a0_1 a0_2 = some r) :
    Calls Tryd.prog 12 #[.agg #[.string a0_0, .int .i64 a0_1, .int .i64 a0_2]] w fun e w' => e = .returned (.int .i64 r) ∧ Below w.heap.size w w' := by
  unfold ref13_Check.f at h
  by_cases hs : a0_0.size ≤ 9223372036854775807
  · rw [if_pos hs] at h
    obtain ⟨b, hb, h⟩ := Option.bind_eq_some_iff.1 h
    obtain rfl := Option.some.inj h
    exact ref13_ok k a0_0 a0_1 a0_2 hs b hb w
  · rw [if_neg hs] at h
    cases h

end Go.Proofs.YtoeaidhkohfaoaaDoor.Hand
