/- The contract of escseq.Next in the shape of the printed ones: at every slice of bytes. -/
import Derived.Test.YtmdeehblmkpddaaDoorHandEscNext91
import Derived.Test.YtmdeehblmkpddaaDoorHandEscNext79
namespace Go.Proofs.YtmdeehblmkpddaaDoor.Hand
open Go.RowKit Go.Maps Go.WideShapes Go.WideMaps Go.ChangeMaps
open Go.Proofs.YtmdeehblmkpddaaDoorW.PrintWords Go.Proofs.YtmdeehblmkpddaaDoorW.PrintLast
set_option linter.unusedVariables false
set_option linter.unusedSimpArgs false

set_option maxHeartbeats 1000000 in
set_option maxRecDepth 100000 in
/-- ESC alone. -/
theorem next_one (b off c : Nat) (w : World) (hc : w.cell? ⟨b, off, none⟩ = some (.int .u8 27)) : Calls Tryd.prog 48 #[.slice (some ⟨b, off, none⟩) 1 c] w fun e w' => e = ans (0, 0, 1, 7) ∧ Below w.heap.size w w' := by
  have hb := World.block_lt_of_cell? w _ hc
  go_enter Tryd.func48, Tryd.ntmps48
  go_wp2
  go_step3
  go_wp2
  go_step3
  go_wp2
  refine wp_loop_rounds 1 ?_
  rw [rounds_succ]
  go_wp2
  (try rw [Exit.noGoto_ret])
  refine bodyPost_ret (v := .tuple #[.agg #[.int .i64 0, .int .i64 0], .int .i64 1, .int .i64 7]) (by simp [results, Tryd.results48, go_sem]) rfl ⟨rfl, ?_⟩
  exact (((Below.refl _ _).alloc (Nat.le_refl _) _).alloc (by simp) _)

/-- What the printed texts call. -/
def escseq_Next.f (l : List Int) : Option (Int × Int × Int × Int) := some (nextL l)

theorem escseq_Next.calls (A0 : Option Addr) (c0 : Nat) (l0 : List Int) (r1 r2 r3 r4 : Int) (w : World) (hr0 : Kd.C (Kd.int .u8) w A0 l0.length l0) (hc0 : l0.length ≤ c0) (h : escseq_Next.f l0 = some (r1, r2, r3, r4)) :
    Calls Tryd.prog 48 #[.slice A0 l0.length c0] w fun e w' => e = .returned (.tuple #[.agg #[.int .i64 r1, .int .i64 r2], .int .i64 r3, .int .i64 r4]) ∧ Below w.heap.size w w' := by
  have hh : nextL l0 = (r1, r2, r3, r4) := Option.some.inj h
  have key : Calls Tryd.prog 48 #[.slice A0 l0.length c0] w fun e w' => e = ans (nextL l0) ∧ Below w.heap.size w w' := by
    clear h hh
    have hr := Kd.reads_of_C (d := (0 : Int)) hr0
    by_cases hz : l0.length = 0
    · have e : nextL l0 = (0, 0, 0, 6) := by unfold nextL; rw [if_pos hz]
      rw [hz, e]
      exact next_zero A0 c0 w
    · obtain ⟨ad, rfl, hcell⟩ := hr.2.2 (by omega)
      have hm := hr.2.1
      obtain ⟨b, off, sp⟩ := ad
      have q0 := hcell 0 (by omega)
      have hsp : sp = none := by simpa [Addr.add] using World.cell?_spot q0
      subst hsp
      have hat : At w b off l0 := fun k hk => by have := hcell k hk; rwa [add_at] at this
      clear hcell q0 hr hr0
      have c0 := hat 0 (by omega)
      rw [Nat.add_zero] at c0
      by_cases h27 : l0.getD 0 0 = 27
      · rw [h27] at c0
        by_cases h1 : l0.length = 1
        · have e : nextL l0 = (0, 0, 1, 7) := by unfold nextL; rw [if_neg hz, if_neg (by simp only [h27, ne_eq, not_true_eq_false, not_false_eq_true]), if_neg (by omega), h1]; unfold nextGo; rw [h1]; rfl
          rw [h1, e]
          exact next_one b off _ w c0
        · by_cases h91 : l0.getD 1 0 = 91
          · have e : nextL l0 = nextGo l0 (l0.length - 2) 2 false := by unfold nextL; rw [if_neg hz, if_neg (by simp only [h27, ne_eq, not_true_eq_false, not_false_eq_true]), if_neg (fun x => x.2.1 h91)]
            rw [e]
            exact next_91 l0 b off _ w (by omega) hm hc0 hat h27 h91
          · by_cases h79 : l0.getD 1 0 = 79
            · have e : nextL l0 = nextGo l0 (l0.length - 2) 2 false := by unfold nextL; rw [if_neg hz, if_neg (by simp only [h27, ne_eq, not_true_eq_false, not_false_eq_true]), if_neg (fun x => x.2.2 h79)]
              rw [e]
              exact next_79 l0 b off _ w (by omega) hm hc0 hat h27 h79
            · have e : nextL l0 = (15, 0, 1, 0) := by unfold nextL; rw [if_neg hz, if_neg (by simp only [h27, ne_eq, not_true_eq_false, not_false_eq_true]), if_pos ⟨by omega, h91, h79⟩]
              rw [e]
              exact next_two b off _ _ _ w (by omega) c0 (hat 1 (by omega)) h91 h79
      · have e : nextL l0 = (0, 0, 0, 8) := by unfold nextL; rw [if_neg hz, if_pos h27]
        rw [e]
        exact next_other b off _ _ _ w (by omega) c0 h27
  rw [hh] at key
  exact key

end Go.Proofs.YtmdeehblmkpddaaDoor.Hand
