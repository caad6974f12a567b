/- escseq.Next at bytes that begin with ESC [ -/
import Derived.Test.YtmdeehblmkpddaaDoorHandEscNext
namespace Go.Proofs.YtmdeehblmkpddaaDoor.Hand
open Go.RowKit Go.Maps Go.WideShapes Go.WideMaps Go.ChangeMaps
open Go.Proofs.YtmdeehblmkpddaaDoorW.PrintWords Go.Proofs.YtmdeehblmkpddaaDoorW.PrintLast
set_option linter.unusedVariables false
set_option linter.unusedSimpArgs false

set_option maxHeartbeats 1000000 in
set_option maxRecDepth 100000 in
theorem next_91 (l : List Int) (b off c : Nat) (w : World) (hn : 1 < l.length) (hm : l.length ≤ 9223372036854775807) (hcap : l.length ≤ c) (hc : At w b off l) (h0 : l.getD 0 0 = 27) (h1 : l.getD 1 0 = 91) :
    Calls Tryd.prog 48 #[.slice (some ⟨b, off, none⟩) l.length c] w fun e w' => e = ans (nextGo l (l.length - 2) 2 false) ∧ Below w.heap.size w w' := by
  have c0 : w.cell? ⟨b, off, none⟩ = some (.int .u8 27) := by have := hc 0 (by omega); rwa [h0] at this
  have c1 : w.cell? ⟨b, off + 1, none⟩ = some (.int .u8 91) := by have := hc 1 (by omega); rwa [h1] at this
  have hb := World.block_lt_of_cell? w _ c0
  have HC := Lib.hid hc
  have H0 := Lib.hid h0
  have H1 := Lib.hid h1
  clear hc h0 h1
  have hz : ((l.length : Int) == 0) = false := beq_eq_false_iff_ne.mpr (by omega)
  go_enter Tryd.func48, Tryd.ntmps48
  go_wp2
  go_step3
  go_wp2
  go_step3
  go_wp2
  go_loop [6, 7] (fun o i => ∃ (k : Nat) (ob : Bool), 2 ≤ k ∧ k ≤ l.length ∧ i = .int .i64 k ∧ o = .bool ob ∧ Hid (nextGo l (l.length - 2) 2 false = nextGo l (l.length - k) k ob)) (fun _ i => l.length - (intOf i).toNat)
  case atStart => exact ⟨2, false, by omega, by omega, rfl, rfl, rfl⟩
  case round =>
    obtain ⟨k, ob, hk2, hkl, rfl, rfl, hrel⟩ := hrel
    by_cases hlt : k < l.length
    · obtain ⟨d, hd0⟩ : ∃ d, l.length - k = d + 1 := ⟨l.length - k - 1, by omega⟩
      obtain ⟨x, hx0⟩ : ∃ x, l.getD k 0 = x := ⟨_, rfl⟩
      have hck : w.cell? ⟨b, off + k, none⟩ = some (.int .u8 x) := by have := HC.out k hlt; rwa [hx0] at this
      have hd := Lib.hid hd0
      have hx := Lib.hid hx0
      have hd' : l.length - (k + 1) = d := by omega
      have Hd' := Lib.hid hd'
      clear hd0 hx0 hd'
      have step : Hid (nextGo l (l.length - 2) 2 false = nextGo l (d + 1) k ob) := by rw [← hd.out]; exact hrel.out
      clear hrel
      have step1 := Lib.hid ((step.out).trans (nextGo_succ l d k ob))
      clear step
      by_cases hA : 64 ≤ x ∧ x ≤ 126
      · have s : Hid (nextGo l (l.length - 2) 2 false = ((kindL (strOfNums (l.take (k + 1))).data.toList).getD 15, 0, (k : Int) + 1, 0)) := by rw [step1.out, hx.out, if_pos hA]; rfl
        clear step1 hx hd Hd'
        have hcn : ¬ (c = 0) := by omega
        have hkc : (k : Int) + 1 ≤ (c : Int) := by omega
        have hk0 : (0 : Int) ≤ (k : Int) + 1 := by omega
        have hw1 : IntKind.i64.wrap ((k : Int) + 1) = (k : Int) + 1 := IntWalk.i64_in _ (by omega)
        have hw2 : ((k : Int) + 1).toNat = k + 1 := by omega
        have hatW : At ((w.alloc (Obj.cells #[Value.int IntKind.i64 0, Value.int IntKind.i64 0] 71)).alloc (Obj.cells #[Value.int IntKind.i64 15, Value.int IntKind.i64 0] 71)) b off l :=
          HC.out.below (((Below.refl _ _).alloc (Nat.le_refl _) _).alloc (by simp) _)
        have hatD := hatW.drew
        have hss : (strOfNums (l.take (k + 1))).size ≤ maxLen := by rw [strOfNums_size]; unfold maxLen; simp; omega
        have hcv : ∀ W : World, At W b off l → (Go.convert 22 9 (.slice (some ⟨b, off, none⟩) (k + 1) c)).run Tryd.prog W = .ok (.string (strOfNums (l.take (k + 1)))) W := fun W h => h.conv k c hlt
        generalize strOfNums (l.take (k + 1)) = st at s hss hcv
        cases hk : kindL st.data.toList with
        | some q =>
          rw [hk] at s
          have Hk := Lib.hid hk
          clear hk
          go_wp2
          go_region_with (go_at_call 69; refine (known_any _).mono ?_; rintro e w1 ⟨rfl, hown, hbel⟩; have hl : (Instr.lookup 102 (.map (some (w.heap.size + 1 + 1))) (.string st) true).run Tryd.prog w1 = .ok (.tuple #[.int .i64 q, .bool true]) w1 := (by have hl0 := look_seq hown st hss; rw [Hk.out] at hl0; simpa using hl0); have hat1 : At w1 b off l := At.below (by exact hatW) hbel; clear hown)
          all_goals
            have f0 : w1.cell? ⟨w.heap.size, 0, none⟩ = some (.int .i64 0) := (hbel.cell (p := ⟨w.heap.size, 0, none⟩) (by first | (simp; done) | (simp; omega))).trans (by simp [go_sem])
            have f1 : w1.cell? ⟨w.heap.size, 1, none⟩ = some (.int .i64 0) := (hbel.cell (p := ⟨w.heap.size, 1, none⟩) (by first | (simp; done) | (simp; omega))).trans (by simp [go_sem])
            have f2 : w1.cell? ⟨w.heap.size + 1, 0, none⟩ = some (.int .i64 15) := (hbel.cell (p := ⟨w.heap.size + 1, 0, none⟩) (by first | (simp; done) | (simp; omega))).trans (by simp [go_sem])
            have f3 : w1.cell? ⟨w.heap.size + 1, 1, none⟩ = some (.int .i64 0) := (hbel.cell (p := ⟨w.heap.size + 1, 1, none⟩) (by first | (simp; done) | (simp; omega))).trans (by simp [go_sem])
            have z0 : w1.frozen? ⟨w.heap.size, 0, none⟩ = false := (hbel.frozen (p := ⟨w.heap.size, 0, none⟩) (by first | (simp; done) | (simp; omega))).trans (by simp [go_sem])
            have z1 : w1.frozen? ⟨w.heap.size, 1, none⟩ = false := (hbel.frozen (p := ⟨w.heap.size, 1, none⟩) (by first | (simp; done) | (simp; omega))).trans (by simp [go_sem])
            have bw : Below w.heap.size w w1 := (((Below.refl w.heap.size w).alloc (Nat.le_refl _) _).alloc (by simp) _).drew.trans (hbel.mono (by first | (simp; done) | (simp; omega)))
            clear hbel hl hat1
            go_wp2
            (try rw [Exit.noGoto_ret])
            refine bodyPost_ret (v := .tuple #[.agg #[.int .i64 q, .int .i64 0], .int .i64 ((k : Int) + 1), .int .i64 0]) (by simp [results, Tryd.results48, go_sem, f0, f1]) rfl ⟨by rw [s.out]; rfl, ?_⟩
            exact ((bw.setCell (by simp) _).setCell (by simp) _)
        | none =>
          rw [hk] at s
          have Hk := Lib.hid hk
          clear hk
          go_wp2
          go_region_with (go_at_call 69; refine (known_any _).mono ?_; rintro e w1 ⟨rfl, hown, hbel⟩; have hl : (Instr.lookup 102 (.map (some (w.heap.size + 1 + 1))) (.string st) true).run Tryd.prog w1 = .ok (.tuple #[.int .i64 0, .bool false]) w1 := (by have hl0 := look_seq hown st hss; rw [Hk.out] at hl0; simpa using hl0); have hat1 : At w1 b off l := At.below (by exact hatW) hbel; clear hown)
          all_goals
            have f0 : w1.cell? ⟨w.heap.size, 0, none⟩ = some (.int .i64 0) := (hbel.cell (p := ⟨w.heap.size, 0, none⟩) (by first | (simp; done) | (simp; omega))).trans (by simp [go_sem])
            have f1 : w1.cell? ⟨w.heap.size, 1, none⟩ = some (.int .i64 0) := (hbel.cell (p := ⟨w.heap.size, 1, none⟩) (by first | (simp; done) | (simp; omega))).trans (by simp [go_sem])
            have f2 : w1.cell? ⟨w.heap.size + 1, 0, none⟩ = some (.int .i64 15) := (hbel.cell (p := ⟨w.heap.size + 1, 0, none⟩) (by first | (simp; done) | (simp; omega))).trans (by simp [go_sem])
            have f3 : w1.cell? ⟨w.heap.size + 1, 1, none⟩ = some (.int .i64 0) := (hbel.cell (p := ⟨w.heap.size + 1, 1, none⟩) (by first | (simp; done) | (simp; omega))).trans (by simp [go_sem])
            have z0 : w1.frozen? ⟨w.heap.size, 0, none⟩ = false := (hbel.frozen (p := ⟨w.heap.size, 0, none⟩) (by first | (simp; done) | (simp; omega))).trans (by simp [go_sem])
            have z1 : w1.frozen? ⟨w.heap.size, 1, none⟩ = false := (hbel.frozen (p := ⟨w.heap.size, 1, none⟩) (by first | (simp; done) | (simp; omega))).trans (by simp [go_sem])
            have bw : Below w.heap.size w w1 := (((Below.refl w.heap.size w).alloc (Nat.le_refl _) _).alloc (by simp) _).drew.trans (hbel.mono (by first | (simp; done) | (simp; omega)))
            clear hbel hl hat1
            go_wp2
            (try rw [Exit.noGoto_ret])
            refine bodyPost_ret (v := .tuple #[.agg #[.int .i64 15, .int .i64 0], .int .i64 ((k : Int) + 1), .int .i64 0]) (by simp [results, Tryd.results48, go_sem, f0, f1]) rfl ⟨by rw [s.out]; rfl, ?_⟩
            exact ((bw.setCell (by simp) _).setCell (by simp) _)
      · by_cases hf : 34 ≤ k
        · have s : Hid (nextGo l (l.length - 2) 2 false = (15, 0, (k : Int), 0)) := by rw [step1.out, hx.out, if_neg hA, if_pos (.inr hf)]; rfl
          clear step1 hx hd Hd'
          by_cases h64 : 64 ≤ x
          all_goals
            go_wp2
            (try rw [Exit.noGoto_ret])
            refine bodyPost_ret (v := .tuple #[.agg #[.int .i64 15, .int .i64 0], .int .i64 k, .int .i64 0]) (by simp [results, Tryd.results48, go_sem]) rfl ⟨by rw [s.out]; rfl, ?_⟩
            exact (((Below.refl _ _).alloc (Nat.le_refl _) _).alloc (by simp) _)
        · have base : ∀ r, (if 48 ≤ x ∧ x ≤ 63 ∧ ob = false then nextGo l d (k + 1) ob else if 32 ≤ x ∧ x ≤ 47 then nextGo l d (k + 1) true else (15, 0, (k : Int), 0)) = r → Hid (nextGo l (l.length - 2) 2 false = r) := by
            intro r hr
            rw [← hr, step1.out, hx.out, if_neg hA, H1.out, if_neg (by omega)]
            rfl
          clear step1 hx
          by_cases hP : 48 ≤ x ∧ x ≤ 63
          · cases ob with
            | false =>
              have s := base _ (if_pos ⟨hP.1, hP.2, rfl⟩)
              clear base
              go_wp2
              go_round
              case rel => exact ⟨k + 1, false, by omega, by omega, by go_num, rfl, by rw [Hd'.out]; exact s⟩
              case measure => simp [intOf]; omega
            | true =>
              have s := base _ ((if_neg (by simp)).trans (if_neg (by omega)))
              clear base
              go_wp2
              (try rw [Exit.noGoto_ret])
              refine bodyPost_ret (v := .tuple #[.agg #[.int .i64 15, .int .i64 0], .int .i64 k, .int .i64 0]) (by simp [results, Tryd.results48, go_sem]) rfl ⟨by rw [s.out]; rfl, ?_⟩
              exact (((Below.refl _ _).alloc (Nat.le_refl _) _).alloc (by simp) _)
          · by_cases hQ : 32 ≤ x ∧ x ≤ 47
            · have s := base _ ((if_neg (by omega)).trans (if_pos hQ))
              clear base
              go_wp2
              go_round
              case rel => exact ⟨k + 1, true, by omega, by omega, by go_num, rfl, by rw [Hd'.out]; exact s⟩
              case measure => simp [intOf]; omega
            · have s := base _ ((if_neg (by omega)).trans (if_neg hQ))
              clear base
              by_cases h32 : x < 32
              all_goals
                go_wp2
                (try rw [Exit.noGoto_ret])
                refine bodyPost_ret (v := .tuple #[.agg #[.int .i64 15, .int .i64 0], .int .i64 k, .int .i64 0]) (by simp [results, Tryd.results48, go_sem]) rfl ⟨by rw [s.out]; rfl, ?_⟩
                exact (((Below.refl _ _).alloc (Nat.le_refl _) _).alloc (by simp) _)
    · obtain rfl : k = l.length := by omega
      have s : Hid (nextGo l (l.length - 2) 2 false = (0, 0, (l.length : Int), 7)) := by rw [hrel.out, Nat.sub_self]; rfl
      clear hrel
      go_wp2
      refine bodyPost_ret (v := .tuple #[.agg #[.int .i64 0, .int .i64 0], .int .i64 l.length, .int .i64 7]) (by simp [results, Tryd.results48, go_sem]) rfl ⟨by rw [s.out]; rfl, ?_⟩
      exact (((Below.refl _ _).alloc (Nat.le_refl _) _).alloc (by simp) _)

end Go.Proofs.YtmdeehblmkpddaaDoor.Hand
