/- The contract of escseq.Next: it answers as the plain function 'nextL' of the bytes; nothing that was there is changed. -/
import Derived.Test.YtmdeehblmkpddaaDoorHandEscKnown
import Derived.Test.YtmdeehblmkpddaaDoorWMore
import Derived.Deep.QuietTactic
import Derived.BigQuiet
import Derived.WalkSpells
import Derived.WalkMore
import Derived.Outline
import Derived.LoopTactic
import Derived.Laws.BytesArg
import Derived.Deep.RegionWith
import Derived.IntWalk
namespace Go.Proofs.YtmdeehblmkpddaaDoor.Hand
open Go.RowKit Go.Maps Go.WideShapes Go.WideMaps Go.ChangeMaps
open Go.Proofs.YtmdeehblmkpddaaDoorW.PrintWords Go.Proofs.YtmdeehblmkpddaaDoorW.PrintLast
set_option linter.unusedVariables false
set_option linter.unusedSimpArgs false

/-- From place i on, d places before the end. -/
def nextGo (l : List Int) : Nat → Nat → Bool → Int × Int × Int × Int
  | 0, _, _ => (0, 0, l.length, 7)
  | d + 1, i, o =>
    if 64 ≤ l.getD i 0 ∧ l.getD i 0 ≤ 126 then (((kindL (strOfNums (l.take (i + 1))).data.toList).getD 15), 0, (i : Int) + 1, 0)
    else if l.getD 1 0 = 79 ∨ 34 ≤ i then (15, 0, i, 0)
    else if 48 ≤ l.getD i 0 ∧ l.getD i 0 ≤ 63 ∧ o = false then nextGo l d (i + 1) o
    else if 32 ≤ l.getD i 0 ∧ l.getD i 0 ≤ 47 then nextGo l d (i + 1) true
    else (15, 0, i, 0)
theorem nextGo_succ (l : List Int) (d i : Nat) (o : Bool) : nextGo l (d + 1) i o = (if 64 ≤ l.getD i 0 ∧ l.getD i 0 ≤ 126 then (((kindL (strOfNums (l.take (i + 1))).data.toList).getD 15), 0, (i : Int) + 1, 0)
    else if l.getD 1 0 = 79 ∨ 34 ≤ i then (15, 0, i, 0)
    else if 48 ≤ l.getD i 0 ∧ l.getD i 0 ≤ 63 ∧ o = false then nextGo l d (i + 1) o
    else if 32 ≤ l.getD i 0 ∧ l.getD i 0 ≤ 47 then nextGo l d (i + 1) true
    else (15, 0, i, 0)) := rfl
def nextL (l : List Int) : Int × Int × Int × Int :=
  if l.length = 0 then (0, 0, 0, 6) else if l.getD 0 0 ≠ 27 then (0, 0, 0, 8)
  else if 1 < l.length ∧ l.getD 1 0 ≠ 91 ∧ l.getD 1 0 ≠ 79 then (15, 0, 1, 0)
  else nextGo l (l.length - 2) 2 false

/-- What the call answers. -/
def ans (p : Int × Int × Int × Int) : Ending := .returned (.tuple #[.agg #[.int .i64 p.1, .int .i64 p.2.1], .int .i64 p.2.2.1, .int .i64 p.2.2.2])

theorem between_any (c a b : Int) (w : World) : Calls Tryd.prog 68 #[.int .u8 c, .int .u8 a, .int .u8 b] w fun e w' => e = .returned (.bool (decide (a ≤ c ∧ c ≤ b))) ∧ w = w' := by
  by_cases h : a ≤ c
  all_goals
    go_enter Tryd.func68, Tryd.ntmps68
    go_wp2
    go_ret
    exact ⟨by first | (simp [h]; done) | (simp [h]; omega), rfl⟩

set_option maxHeartbeats 400000 in
set_option maxRecDepth 100000 in
theorem next_zero (A : Option Addr) (c : Nat) (w : World) : Calls Tryd.prog 48 #[.slice A 0 c] w fun e w' => e = ans (0, 0, 0, 6) ∧ Below w.heap.size w w' := by
  go_enter Tryd.func48, Tryd.ntmps48
  go_wp2
  go_step3
  go_wp2
  rw [Exit.noGoto_ret]
  refine bodyPost_ret (v := .tuple #[.agg #[.int .i64 0, .int .i64 0], .int .i64 0, .int .i64 6]) (by simp [results, Tryd.results48, go_sem]) rfl ⟨rfl, ?_⟩
  exact (Below.refl _ _).alloc (Nat.le_refl _) _

set_option maxHeartbeats 400000 in
set_option maxRecDepth 100000 in
theorem next_other (b off n c : Nat) (x : Int) (w : World) (hn : 0 < n) (hc : w.cell? ⟨b, off, none⟩ = some (.int .u8 x)) (hx : x ≠ 27) : Calls Tryd.prog 48 #[.slice (some ⟨b, off, none⟩) n c] w fun e w' => e = ans (0, 0, 0, 8) ∧ Below w.heap.size w w' := by
  have hb := World.block_lt_of_cell? w _ hc
  have hx1 : (x != 27) = true := bne_iff_ne.mpr hx
  have h0 : ((n : Int) == 0) = false := by simp; omega
  go_enter Tryd.func48, Tryd.ntmps48
  go_wp2
  go_step3
  go_wp2
  rw [Exit.noGoto_ret]
  refine bodyPost_ret (v := .tuple #[.agg #[.int .i64 0, .int .i64 0], .int .i64 0, .int .i64 8]) (by simp [results, Tryd.results48, go_sem]) rfl ⟨rfl, ?_⟩
  exact (Below.refl _ _).alloc (Nat.le_refl _) _

set_option maxHeartbeats 400000 in
set_option maxRecDepth 100000 in
theorem next_two (b off n c : Nat) (y : Int) (w : World) (hn : 1 < n) (hc : w.cell? ⟨b, off, none⟩ = some (.int .u8 27)) (hc1 : w.cell? ⟨b, off + 1, none⟩ = some (.int .u8 y)) (hx : y ≠ 91) (hy : y ≠ 79) : Calls Tryd.prog 48 #[.slice (some ⟨b, off, none⟩) n c] w fun e w' => e = ans (15, 0, 1, 0) ∧ Below w.heap.size w w' := by
  have hb := World.block_lt_of_cell? w _ hc
  have hx1 : (y != 91) = true := bne_iff_ne.mpr hx
  have hx2 : (y != 79) = true := bne_iff_ne.mpr hy
  have h0 : ((n : Int) == 0) = false := by simp; omega
  go_enter Tryd.func48, Tryd.ntmps48
  go_wp2
  go_step3
  go_wp2
  rw [Exit.noGoto_ret]
  refine bodyPost_ret (v := .tuple #[.agg #[.int .i64 15, .int .i64 0], .int .i64 1, .int .i64 0]) (by simp [results, Tryd.results48, go_sem]) rfl ⟨rfl, ?_⟩
  exact (((Below.refl _ _).alloc (Nat.le_refl _) _).alloc (by simp) _)

/-- The bytes lie there. -/
def At (w : World) (b off : Nat) (l : List Int) : Prop := ∀ k, k < l.length → w.cell? ⟨b, off + k, none⟩ = some (.int .u8 (l.getD k 0))
theorem At.below {w w1 : World} {b off : Nat} {l : List Int} (h : At w b off l) (hb : Below w.heap.size w w1) : At w1 b off l := fun k hk => pw_cell_below hb (h k hk)
theorem At.drew {w : World} {b off : Nat} {l : List Int} (h : At w b off l) : At w.drew b off l := h
theorem At.conv {w : World} {b off : Nat} {l : List Int} (h : At w b off l) (k c : Nat) (hk : k < l.length) :
    (Go.convert 22 9 (.slice (some ⟨b, off, none⟩) (k + 1) c)).run Tryd.prog w = .ok (.string (strOfNums (l.take (k + 1)))) w := by
  refine run_convert_bytes_arg w 22 5 Tryd.underlying22 Tryd.underlying5 b off (k + 1) c (l.take (k + 1)) (by simp; omega) (fun i hi => ?_) 9 Tryd.underlying9
  rw [h i (by omega)]
  simp [List.getElem?_take, hi]
theorem strOfNums_size (l : List Int) : (strOfNums l).size = l.length := by simp [strOfNums, ByteArray.size]

end Go.Proofs.YtmdeehblmkpddaaDoor.Hand

namespace Go.Proofs.YtmdeehblmkpddaaDoor.Hand
open Go.RowKit Go.Maps Go.WideShapes Go.WideMaps Go.ChangeMaps
open Go.Proofs.YtmdeehblmkpddaaDoorW.PrintWords Go.Proofs.YtmdeehblmkpddaaDoorW.PrintLast
set_option linter.unusedVariables false
set_option linter.unusedSimpArgs false

set_option maxHeartbeats 1000000 in
set_option maxRecDepth 100000 in
theorem next_91 (l : List Int) (b off c : Nat) (w : World) (hn : 1 < l.length) (hm : l.length ≤ 9223372036854775807) (hcap : l.length ≤ c) (hc : At w b off l) (h0 : l.getD 0 0 = 27) (h1 : l.getD 1 0 = 91) :
    Calls Tryd.prog 48 #[.slice (some ⟨b, off, none⟩) l.length c] w fun e w' => e = ans (nextGo l (l.length - 2) 2 false) ∧ Below w.heap.size w w' := by
  have c0 : w.cell? ⟨b, off, none⟩ = some (.int .u8 27) := by have := hc 0 (by omega); rwa [h0] at this
  have c1 : w.cell? ⟨b, off + 1, none⟩ = some (.int .u8 91) := by have := hc 1 (by omega); rwa [h1] at this
  have hb := World.block_lt_of_cell? w _ c0
  have HC := Lib.hid hc
  have H0 := Lib.hid h0
  have H1 := Lib.hid h1
  clear hc h0 h1
  have hz : ((l.length : Int) == 0) = false := beq_eq_false_iff_ne.mpr (by omega)
  go_enter Tryd.func48, Tryd.ntmps48
  go_wp2
  go_step3
  go_wp2
  go_step3
  go_wp2
  go_loop [6, 7] (fun o i => ∃ (k : Nat) (ob : Bool), 2 ≤ k ∧ k ≤ l.length ∧ i = .int .i64 k ∧ o = .bool ob ∧ Hid (nextGo l (l.length - 2) 2 false = nextGo l (l.length - k) k ob)) (fun _ i => l.length - (intOf i).toNat)
  case atStart => exact ⟨2, false, by omega, by omega, rfl, rfl, rfl⟩
  case round =>
    obtain ⟨k, ob, hk2, hkl, rfl, rfl, hrel⟩ := hrel
    by_cases hlt : k < l.length
    · obtain ⟨d, hd0⟩ : ∃ d, l.length - k = d + 1 := ⟨l.length - k - 1, by omega⟩
      obtain ⟨x, hx0⟩ : ∃ x, l.getD k 0 = x := ⟨_, rfl⟩
      have hck : w.cell? ⟨b, off + k, none⟩ = some (.int .u8 x) := by have := HC.out k hlt; rwa [hx0] at this
      have hd := Lib.hid hd0
      have hx := Lib.hid hx0
      have hd' : l.length - (k + 1) = d := by omega
      have Hd' := Lib.hid hd'
      clear hd0 hx0 hd'
      have step : Hid (nextGo l (l.length - 2) 2 false = nextGo l (d + 1) k ob) := by rw [← hd.out]; exact hrel.out
      clear hrel
      have step1 := Lib.hid ((step.out).trans (nextGo_succ l d k ob))
      clear step
      by_cases hA : 64 ≤ x ∧ x ≤ 126
      · have s : Hid (nextGo l (l.length - 2) 2 false = ((kindL (strOfNums (l.take (k + 1))).data.toList).getD 15, 0, (k : Int) + 1, 0)) := by rw [step1.out, hx.out, if_pos hA]; rfl
        clear step1 hx hd Hd'
        have hcn : ¬ (c = 0) := by omega
        have hkc : (k : Int) + 1 ≤ (c : Int) := by omega
        have hk0 : (0 : Int) ≤ (k : Int) + 1 := by omega
        have hw1 : IntKind.i64.wrap ((k : Int) + 1) = (k : Int) + 1 := IntWalk.i64_in _ (by omega)
        have hw2 : ((k : Int) + 1).toNat = k + 1 := by omega
        have hatW : At ((w.alloc (Obj.cells #[Value.int IntKind.i64 0, Value.int IntKind.i64 0] 71)).alloc (Obj.cells #[Value.int IntKind.i64 15, Value.int IntKind.i64 0] 71)) b off l :=
          HC.out.below (((Below.refl _ _).alloc (Nat.le_refl _) _).alloc (by simp) _)
        have hatD := hatW.drew
        have hss : (strOfNums (l.take (k + 1))).size ≤ maxLen := by rw [strOfNums_size]; unfold maxLen; simp; omega
        have hcv : ∀ W : World, At W b off l → (Go.convert 22 9 (.slice (some ⟨b, off, none⟩) (k + 1) c)).run Tryd.prog W = .ok (.string (strOfNums (l.take (k + 1)))) W := fun W h => h.conv k c hlt
        generalize strOfNums (l.take (k + 1)) = st at s hss hcv
        cases hk : kindL st.data.toList with
        | some q =>
          rw [hk] at s
          have Hk := Lib.hid hk
          clear hk
          go_wp2
          go_region_with (go_at_call 69; refine (known_any _).mono ?_; rintro e w1 ⟨rfl, hown, hbel⟩; have hl : (Instr.lookup 102 (.map (some (w.heap.size + 1 + 1))) (.string st) true).run Tryd.prog w1 = .ok (.tuple #[.int .i64 q, .bool true]) w1 := (by have hl0 := look_seq hown st hss; rw [Hk.out] at hl0; simpa using hl0); have hat1 : At w1 b off l := At.below (by exact hatW) hbel; clear hown)
          all_goals
            have f0 : w1.cell? ⟨w.heap.size, 0, none⟩ = some (.int .i64 0) := (hbel.cell (p := ⟨w.heap.size, 0, none⟩) (by first | (simp; done) | (simp; omega))).trans (by simp [go_sem])
            have f1 : w1.cell? ⟨w.heap.size, 1, none⟩ = some (.int .i64 0) := (hbel.cell (p := ⟨w.heap.size, 1, none⟩) (by first | (simp; done) | (simp; omega))).trans (by simp [go_sem])
            have f2 : w1.cell? ⟨w.heap.size + 1, 0, none⟩ = some (.int .i64 15) := (hbel.cell (p := ⟨w.heap.size + 1, 0, none⟩) (by first | (simp; done) | (simp; omega))).trans (by simp [go_sem])
            have f3 : w1.cell? ⟨w.heap.size + 1, 1, none⟩ = some (.int .i64 0) := (hbel.cell (p := ⟨w.heap.size + 1, 1, none⟩) (by first | (simp; done) | (simp; omega))).trans (by simp [go_sem])
            have z0 : w1.frozen? ⟨w.heap.size, 0, none⟩ = false := (hbel.frozen (p := ⟨w.heap.size, 0, none⟩) (by first | (simp; done) | (simp; omega))).trans (by simp [go_sem])
            have z1 : w1.frozen? ⟨w.heap.size, 1, none⟩ = false := (hbel.frozen (p := ⟨w.heap.size, 1, none⟩) (by first | (simp; done) | (simp; omega))).trans (by simp [go_sem])
            have bw : Below w.heap.size w w1 := (((Below.refl w.heap.size w).alloc (Nat.le_refl _) _).alloc (by simp) _).drew.trans (hbel.mono (by first | (simp; done) | (simp; omega)))
            clear hbel hl hat1
            go_wp2
            (try rw [Exit.noGoto_ret])
            refine bodyPost_ret (v := .tuple #[.agg #[.int .i64 q, .int .i64 0], .int .i64 ((k : Int) + 1), .int .i64 0]) (by simp [results, Tryd.results48, go_sem, f0, f1]) rfl ⟨by rw [s.out]; rfl, ?_⟩
            exact ((bw.setCell (by simp) _).setCell (by simp) _)
        | none =>
          rw [hk] at s
          have Hk := Lib.hid hk
          clear hk
          go_wp2
          go_region_with (go_at_call 69; refine (known_any _).mono ?_; rintro e w1 ⟨rfl, hown, hbel⟩; have hl : (Instr.lookup 102 (.map (some (w.heap.size + 1 + 1))) (.string st) true).run Tryd.prog w1 = .ok (.tuple #[.int .i64 0, .bool false]) w1 := (by have hl0 := look_seq hown st hss; rw [Hk.out] at hl0; simpa using hl0); have hat1 : At w1 b off l := At.below (by exact hatW) hbel; clear hown)
          all_goals
            have f0 : w1.cell? ⟨w.heap.size, 0, none⟩ = some (.int .i64 0) := (hbel.cell (p := ⟨w.heap.size, 0, none⟩) (by first | (simp; done) | (simp; omega))).trans (by simp [go_sem])
            have f1 : w1.cell? ⟨w.heap.size, 1, none⟩ = some (.int .i64 0) := (hbel.cell (p := ⟨w.heap.size, 1, none⟩) (by first | (simp; done) | (simp; omega))).trans (by simp [go_sem])
            have f2 : w1.cell? ⟨w.heap.size + 1, 0, none⟩ = some (.int .i64 15) := (hbel.cell (p := ⟨w.heap.size + 1, 0, none⟩) (by first | (simp; done) | (simp; omega))).trans (by simp [go_sem])
            have f3 : w1.cell? ⟨w.heap.size + 1, 1, none⟩ = some (.int .i64 0) := (hbel.cell (p := ⟨w.heap.size + 1, 1, none⟩) (by first | (simp; done) | (simp; omega))).trans (by simp [go_sem])
            have z0 : w1.frozen? ⟨w.heap.size, 0, none⟩ = false := (hbel.frozen (p := ⟨w.heap.size, 0, none⟩) (by first | (simp; done) | (simp; omega))).trans (by simp [go_sem])
            have z1 : w1.frozen? ⟨w.heap.size, 1, none⟩ = false := (hbel.frozen (p := ⟨w.heap.size, 1, none⟩) (by first | (simp; done) | (simp; omega))).trans (by simp [go_sem])
            have bw : Below w.heap.size w w1 := (((Below.refl w.heap.size w).alloc (Nat.le_refl _) _).alloc (by simp) _).drew.trans (hbel.mono (by first | (simp; done) | (simp; omega)))
            clear hbel hl hat1
            go_wp2
            (try rw [Exit.noGoto_ret])
            refine bodyPost_ret (v := .tuple #[.agg #[.int .i64 15, .int .i64 0], .int .i64 ((k : Int) + 1), .int .i64 0]) (by simp [results, Tryd.results48, go_sem, f0, f1]) rfl ⟨by rw [s.out]; rfl, ?_⟩
            exact ((bw.setCell (by simp) _).setCell (by simp) _)
      · by_cases hf : 34 ≤ k
        · have s : Hid (nextGo l (l.length - 2) 2 false = (15, 0, (k : Int), 0)) := by rw [step1.out, hx.out, if_neg hA, if_pos (.inr hf)]; rfl
          clear step1 hx hd Hd'
          by_cases h64 : 64 ≤ x
          all_goals
            go_wp2
            (try rw [Exit.noGoto_ret])
            refine bodyPost_ret (v := .tuple #[.agg #[.int .i64 15, .int .i64 0], .int .i64 k, .int .i64 0]) (by simp [results, Tryd.results48, go_sem]) rfl ⟨by rw [s.out]; rfl, ?_⟩
            exact (((Below.refl _ _).alloc (Nat.le_refl _) _).alloc (by simp) _)
        · have base : ∀ r, (if 48 ≤ x ∧ x ≤ 63 ∧ ob = false then nextGo l d (k + 1) ob else if 32 ≤ x ∧ x ≤ 47 then nextGo l d (k + 1) true else (15, 0, (k : Int), 0)) = r → Hid (nextGo l (l.length - 2) 2 false = r) := by
            intro r hr
            rw [← hr, step1.out, hx.out, if_neg hA, H1.out, if_neg (by omega)]
            rfl
          clear step1 hx
          by_cases hP : 48 ≤ x ∧ x ≤ 63
          · cases ob with
            | false =>
              have s := base _ (if_pos ⟨hP.1, hP.2, rfl⟩)
              clear base
              go_wp2
              go_round
              case rel => exact ⟨k + 1, false, by omega, by omega, by go_num, rfl, by rw [Hd'.out]; exact s⟩
              case measure => simp [intOf]; omega
            | true =>
              have s := base _ ((if_neg (by simp)).trans (if_neg (by omega)))
              clear base
              go_wp2
              (try rw [Exit.noGoto_ret])
              refine bodyPost_ret (v := .tuple #[.agg #[.int .i64 15, .int .i64 0], .int .i64 k, .int .i64 0]) (by simp [results, Tryd.results48, go_sem]) rfl ⟨by rw [s.out]; rfl, ?_⟩
              exact (((Below.refl _ _).alloc (Nat.le_refl _) _).alloc (by simp) _)
          · by_cases hQ : 32 ≤ x ∧ x ≤ 47
            · have s := base _ ((if_neg (by omega)).trans (if_pos hQ))
              clear base
              go_wp2
              go_round
              case rel => exact ⟨k + 1, true, by omega, by omega, by go_num, rfl, by rw [Hd'.out]; exact s⟩
              case measure => simp [intOf]; omega
            · have s := base _ ((if_neg (by omega)).trans (if_neg hQ))
              clear base
              by_cases h32 : x < 32
              all_goals
                go_wp2
                (try rw [Exit.noGoto_ret])
                refine bodyPost_ret (v := .tuple #[.agg #[.int .i64 15, .int .i64 0], .int .i64 k, .int .i64 0]) (by simp [results, Tryd.results48, go_sem]) rfl ⟨by rw [s.out]; rfl, ?_⟩
                exact (((Below.refl _ _).alloc (Nat.le_refl _) _).alloc (by simp) _)
    · obtain rfl : k = l.length := by omega
      have s : Hid (nextGo l (l.length - 2) 2 false = (0, 0, (l.length : Int), 7)) := by rw [hrel.out, Nat.sub_self]; rfl
      clear hrel
      go_wp2
      refine bodyPost_ret (v := .tuple #[.agg #[.int .i64 0, .int .i64 0], .int .i64 l.length, .int .i64 7]) (by simp [results, Tryd.results48, go_sem]) rfl ⟨by rw [s.out]; rfl, ?_⟩
      exact (((Below.refl _ _).alloc (Nat.le_refl _) _).alloc (by simp) _)

end Go.Proofs.YtmdeehblmkpddaaDoor.Hand

namespace Go.Proofs.YtmdeehblmkpddaaDoor.Hand
open Go.RowKit Go.Maps Go.WideShapes Go.WideMaps Go.ChangeMaps
open Go.Proofs.YtmdeehblmkpddaaDoorW.PrintWords Go.Proofs.YtmdeehblmkpddaaDoorW.PrintLast
set_option linter.unusedVariables false
set_option linter.unusedSimpArgs false

set_option maxHeartbeats 1000000 in
set_option maxRecDepth 100000 in
theorem next_79 (l : List Int) (b off c : Nat) (w : World) (hn : 1 < l.length) (hm : l.length ≤ 9223372036854775807) (hcap : l.length ≤ c) (hc : At w b off l) (h0 : l.getD 0 0 = 27) (h1 : l.getD 1 0 = 79) :
    Calls Tryd.prog 48 #[.slice (some ⟨b, off, none⟩) l.length c] w fun e w' => e = ans (nextGo l (l.length - 2) 2 false) ∧ Below w.heap.size w w' := by
  have c0 : w.cell? ⟨b, off, none⟩ = some (.int .u8 27) := by have := hc 0 (by omega); rwa [h0] at this
  have c1 : w.cell? ⟨b, off + 1, none⟩ = some (.int .u8 79) := by have := hc 1 (by omega); rwa [h1] at this
  have hb := World.block_lt_of_cell? w _ c0
  have HC := Lib.hid hc
  have H0 := Lib.hid h0
  have H1 := Lib.hid h1
  clear hc h0 h1
  have hz : ((l.length : Int) == 0) = false := beq_eq_false_iff_ne.mpr (by omega)
  go_enter Tryd.func48, Tryd.ntmps48
  go_wp2
  go_step3
  go_wp2
  go_step3
  go_wp2
  go_loop [6, 7] (fun o i => ∃ (k : Nat) (ob : Bool), 2 ≤ k ∧ k ≤ l.length ∧ i = .int .i64 k ∧ o = .bool ob ∧ Hid (nextGo l (l.length - 2) 2 false = nextGo l (l.length - k) k ob)) (fun _ i => l.length - (intOf i).toNat)
  case atStart => exact ⟨2, false, by omega, by omega, rfl, rfl, rfl⟩
  case round =>
    obtain ⟨k, ob, hk2, hkl, rfl, rfl, hrel⟩ := hrel
    by_cases hlt : k < l.length
    · obtain ⟨d, hd0⟩ : ∃ d, l.length - k = d + 1 := ⟨l.length - k - 1, by omega⟩
      obtain ⟨x, hx0⟩ : ∃ x, l.getD k 0 = x := ⟨_, rfl⟩
      have hck : w.cell? ⟨b, off + k, none⟩ = some (.int .u8 x) := by have := HC.out k hlt; rwa [hx0] at this
      have hd := Lib.hid hd0
      have hx := Lib.hid hx0
      have hd' : l.length - (k + 1) = d := by omega
      have Hd' := Lib.hid hd'
      clear hd0 hx0 hd'
      have step : Hid (nextGo l (l.length - 2) 2 false = nextGo l (d + 1) k ob) := by rw [← hd.out]; exact hrel.out
      clear hrel
      have step1 := Lib.hid ((step.out).trans (nextGo_succ l d k ob))
      clear step
      by_cases hA : 64 ≤ x ∧ x ≤ 126
      · have s : Hid (nextGo l (l.length - 2) 2 false = ((kindL (strOfNums (l.take (k + 1))).data.toList).getD 15, 0, (k : Int) + 1, 0)) := by rw [step1.out, hx.out, if_pos hA]; rfl
        clear step1 hx hd Hd'
        have hcn : ¬ (c = 0) := by omega
        have hkc : (k : Int) + 1 ≤ (c : Int) := by omega
        have hk0 : (0 : Int) ≤ (k : Int) + 1 := by omega
        have hw1 : IntKind.i64.wrap ((k : Int) + 1) = (k : Int) + 1 := IntWalk.i64_in _ (by omega)
        have hw2 : ((k : Int) + 1).toNat = k + 1 := by omega
        have hatW : At ((w.alloc (Obj.cells #[Value.int IntKind.i64 0, Value.int IntKind.i64 0] 71)).alloc (Obj.cells #[Value.int IntKind.i64 15, Value.int IntKind.i64 0] 71)) b off l :=
          HC.out.below (((Below.refl _ _).alloc (Nat.le_refl _) _).alloc (by simp) _)
        have hatD := hatW.drew
        have hss : (strOfNums (l.take (k + 1))).size ≤ maxLen := by rw [strOfNums_size]; unfold maxLen; simp; omega
        have hcv : ∀ W : World, At W b off l → (Go.convert 22 9 (.slice (some ⟨b, off, none⟩) (k + 1) c)).run Tryd.prog W = .ok (.string (strOfNums (l.take (k + 1)))) W := fun W h => h.conv k c hlt
        generalize strOfNums (l.take (k + 1)) = st at s hss hcv
        cases hk : kindL st.data.toList with
        | some q =>
          rw [hk] at s
          have Hk := Lib.hid hk
          clear hk
          go_wp2
          go_region_with (go_at_call 69; refine (known_any _).mono ?_; rintro e w1 ⟨rfl, hown, hbel⟩; have hl : (Instr.lookup 102 (.map (some (w.heap.size + 1 + 1))) (.string st) true).run Tryd.prog w1 = .ok (.tuple #[.int .i64 q, .bool true]) w1 := (by have hl0 := look_seq hown st hss; rw [Hk.out] at hl0; simpa using hl0); have hat1 : At w1 b off l := At.below (by exact hatW) hbel; clear hown)
          all_goals
            have f0 : w1.cell? ⟨w.heap.size, 0, none⟩ = some (.int .i64 0) := (hbel.cell (p := ⟨w.heap.size, 0, none⟩) (by first | (simp; done) | (simp; omega))).trans (by simp [go_sem])
            have f1 : w1.cell? ⟨w.heap.size, 1, none⟩ = some (.int .i64 0) := (hbel.cell (p := ⟨w.heap.size, 1, none⟩) (by first | (simp; done) | (simp; omega))).trans (by simp [go_sem])
            have f2 : w1.cell? ⟨w.heap.size + 1, 0, none⟩ = some (.int .i64 15) := (hbel.cell (p := ⟨w.heap.size + 1, 0, none⟩) (by first | (simp; done) | (simp; omega))).trans (by simp [go_sem])
            have f3 : w1.cell? ⟨w.heap.size + 1, 1, none⟩ = some (.int .i64 0) := (hbel.cell (p := ⟨w.heap.size + 1, 1, none⟩) (by first | (simp; done) | (simp; omega))).trans (by simp [go_sem])
            have z0 : w1.frozen? ⟨w.heap.size, 0, none⟩ = false := (hbel.frozen (p := ⟨w.heap.size, 0, none⟩) (by first | (simp; done) | (simp; omega))).trans (by simp [go_sem])
            have z1 : w1.frozen? ⟨w.heap.size, 1, none⟩ = false := (hbel.frozen (p := ⟨w.heap.size, 1, none⟩) (by first | (simp; done) | (simp; omega))).trans (by simp [go_sem])
            have bw : Below w.heap.size w w1 := (((Below.refl w.heap.size w).alloc (Nat.le_refl _) _).alloc (by simp) _).drew.trans (hbel.mono (by first | (simp; done) | (simp; omega)))
            clear hbel hl hat1
            go_wp2
            (try rw [Exit.noGoto_ret])
            refine bodyPost_ret (v := .tuple #[.agg #[.int .i64 q, .int .i64 0], .int .i64 ((k : Int) + 1), .int .i64 0]) (by simp [results, Tryd.results48, go_sem, f0, f1]) rfl ⟨by rw [s.out]; rfl, ?_⟩
            exact ((bw.setCell (by simp) _).setCell (by simp) _)
        | none =>
          rw [hk] at s
          have Hk := Lib.hid hk
          clear hk
          go_wp2
          go_region_with (go_at_call 69; refine (known_any _).mono ?_; rintro e w1 ⟨rfl, hown, hbel⟩; have hl : (Instr.lookup 102 (.map (some (w.heap.size + 1 + 1))) (.string st) true).run Tryd.prog w1 = .ok (.tuple #[.int .i64 0, .bool false]) w1 := (by have hl0 := look_seq hown st hss; rw [Hk.out] at hl0; simpa using hl0); have hat1 : At w1 b off l := At.below (by exact hatW) hbel; clear hown)
          all_goals
            have f0 : w1.cell? ⟨w.heap.size, 0, none⟩ = some (.int .i64 0) := (hbel.cell (p := ⟨w.heap.size, 0, none⟩) (by first | (simp; done) | (simp; omega))).trans (by simp [go_sem])
            have f1 : w1.cell? ⟨w.heap.size, 1, none⟩ = some (.int .i64 0) := (hbel.cell (p := ⟨w.heap.size, 1, none⟩) (by first | (simp; done) | (simp; omega))).trans (by simp [go_sem])
            have f2 : w1.cell? ⟨w.heap.size + 1, 0, none⟩ = some (.int .i64 15) := (hbel.cell (p := ⟨w.heap.size + 1, 0, none⟩) (by first | (simp; done) | (simp; omega))).trans (by simp [go_sem])
            have f3 : w1.cell? ⟨w.heap.size + 1, 1, none⟩ = some (.int .i64 0) := (hbel.cell (p := ⟨w.heap.size + 1, 1, none⟩) (by first | (simp; done) | (simp; omega))).trans (by simp [go_sem])
            have z0 : w1.frozen? ⟨w.heap.size, 0, none⟩ = false := (hbel.frozen (p := ⟨w.heap.size, 0, none⟩) (by first | (simp; done) | (simp; omega))).trans (by simp [go_sem])
            have z1 : w1.frozen? ⟨w.heap.size, 1, none⟩ = false := (hbel.frozen (p := ⟨w.heap.size, 1, none⟩) (by first | (simp; done) | (simp; omega))).trans (by simp [go_sem])
            have bw : Below w.heap.size w w1 := (((Below.refl w.heap.size w).alloc (Nat.le_refl _) _).alloc (by simp) _).drew.trans (hbel.mono (by first | (simp; done) | (simp; omega)))
            clear hbel hl hat1
            go_wp2
            (try rw [Exit.noGoto_ret])
            refine bodyPost_ret (v := .tuple #[.agg #[.int .i64 15, .int .i64 0], .int .i64 ((k : Int) + 1), .int .i64 0]) (by simp [results, Tryd.results48, go_sem, f0, f1]) rfl ⟨by rw [s.out]; rfl, ?_⟩
            exact ((bw.setCell (by simp) _).setCell (by simp) _)
      · have s : Hid (nextGo l (l.length - 2) 2 false = (15, 0, (k : Int), 0)) := by rw [step1.out, hx.out, if_neg hA, H1.out, if_pos (.inl rfl)]; rfl
        clear step1 hx hd Hd'
        by_cases h64 : 64 ≤ x
        all_goals
          go_wp2
          (try rw [Exit.noGoto_ret])
          refine bodyPost_ret (v := .tuple #[.agg #[.int .i64 15, .int .i64 0], .int .i64 k, .int .i64 0]) (by simp [results, Tryd.results48, go_sem]) rfl ⟨by rw [s.out]; rfl, ?_⟩
          exact (((Below.refl _ _).alloc (Nat.le_refl _) _).alloc (by simp) _)
    · obtain rfl : k = l.length := by omega
      have s : Hid (nextGo l (l.length - 2) 2 false = (0, 0, (l.length : Int), 7)) := by rw [hrel.out, Nat.sub_self]; rfl
      clear hrel
      go_wp2
      refine bodyPost_ret (v := .tuple #[.agg #[.int .i64 0, .int .i64 0], .int .i64 l.length, .int .i64 7]) (by simp [results, Tryd.results48, go_sem]) rfl ⟨by rw [s.out]; rfl, ?_⟩
      exact (((Below.refl _ _).alloc (Nat.le_refl _) _).alloc (by simp) _)

end Go.Proofs.YtmdeehblmkpddaaDoor.Hand

namespace Go.Proofs.YtmdeehblmkpddaaDoor.Hand
open Go.RowKit Go.Maps Go.WideShapes Go.WideMaps Go.ChangeMaps
open Go.Proofs.YtmdeehblmkpddaaDoorW.PrintWords Go.Proofs.YtmdeehblmkpddaaDoorW.PrintLast
set_option linter.unusedVariables false
set_option linter.unusedSimpArgs false

set_option maxHeartbeats 1000000 in
set_option maxRecDepth 100000 in
/-- ESC alone. -/
theorem next_one (b off c : Nat) (w : World) (hc : w.cell? ⟨b, off, none⟩ = some (.int .u8 27)) : Calls Tryd.prog 48 #[.slice (some ⟨b, off, none⟩) 1 c] w fun e w' => e = ans (0, 0, 1, 7) ∧ Below w.heap.size w w' := by
  have hb := World.block_lt_of_cell? w _ hc
  go_enter Tryd.func48, Tryd.ntmps48
  go_wp2
  go_step3
  go_wp2
  go_step3
  go_wp2
  refine wp_loop_rounds 1 ?_
  rw [rounds_succ]
  go_wp2
  (try rw [Exit.noGoto_ret])
  refine bodyPost_ret (v := .tuple #[.agg #[.int .i64 0, .int .i64 0], .int .i64 1, .int .i64 7]) (by simp [results, Tryd.results48, go_sem]) rfl ⟨rfl, ?_⟩
  exact (((Below.refl _ _).alloc (Nat.le_refl _) _).alloc (by simp) _)

/-- What the printed texts call. -/
def escseq_Next.f (l : List Int) : Option (Int × Int × Int × Int) := some (nextL l)

theorem escseq_Next.calls (A0 : Option Addr) (c0 : Nat) (l0 : List Int) (r1 r2 r3 r4 : Int) (w : World) (hr0 : Kd.C (Kd.int .u8) w A0 l0.length l0) (hc0 : l0.length ≤ c0) (h : escseq_Next.f l0 = some (r1, r2, r3, r4)) :
    Calls Tryd.prog 48 #[.slice A0 l0.length c0] w fun e w' => e = .returned (.tuple #[.agg #[.int .i64 r1, .int .i64 r2], .int .i64 r3, .int .i64 r4]) ∧ Below w.heap.size w w' := by
  have hh : nextL l0 = (r1, r2, r3, r4) := Option.some.inj h
  have key : Calls Tryd.prog 48 #[.slice A0 l0.length c0] w fun e w' => e = ans (nextL l0) ∧ Below w.heap.size w w' := by
    clear h hh
    have hr := Kd.reads_of_C (d := (0 : Int)) hr0
    by_cases hz : l0.length = 0
    · have e : nextL l0 = (0, 0, 0, 6) := by unfold nextL; rw [if_pos hz]
      rw [hz, e]
      exact next_zero A0 c0 w
    · obtain ⟨ad, rfl, hcell⟩ := hr.2.2 (by omega)
      have hm := hr.2.1
      obtain ⟨b, off, sp⟩ := ad
      have q0 := hcell 0 (by omega)
      have hsp : sp = none := by simpa [Addr.add] using World.cell?_spot q0
      subst hsp
      have hat : At w b off l0 := fun k hk => by have := hcell k hk; rwa [add_at] at this
      clear hcell q0 hr hr0
      have c0 := hat 0 (by omega)
      rw [Nat.add_zero] at c0
      by_cases h27 : l0.getD 0 0 = 27
      · rw [h27] at c0
        by_cases h1 : l0.length = 1
        · have e : nextL l0 = (0, 0, 1, 7) := by unfold nextL; rw [if_neg hz, if_neg (by simp only [h27, ne_eq, not_true_eq_false, not_false_eq_true]), if_neg (by omega), h1]; unfold nextGo; rw [h1]; rfl
          rw [h1, e]
          exact next_one b off _ w c0
        · by_cases h91 : l0.getD 1 0 = 91
          · have e : nextL l0 = nextGo l0 (l0.length - 2) 2 false := by unfold nextL; rw [if_neg hz, if_neg (by simp only [h27, ne_eq, not_true_eq_false, not_false_eq_true]), if_neg (fun x => x.2.1 h91)]
            rw [e]
            exact next_91 l0 b off _ w (by omega) hm hc0 hat h27 h91
          · by_cases h79 : l0.getD 1 0 = 79
            · have e : nextL l0 = nextGo l0 (l0.length - 2) 2 false := by unfold nextL; rw [if_neg hz, if_neg (by simp only [h27, ne_eq, not_true_eq_false, not_false_eq_true]), if_neg (fun x => x.2.2 h79)]
              rw [e]
              exact next_79 l0 b off _ w (by omega) hm hc0 hat h27 h79
            · have e : nextL l0 = (15, 0, 1, 0) := by unfold nextL; rw [if_neg hz, if_neg (by simp only [h27, ne_eq, not_true_eq_false, not_false_eq_true]), if_pos ⟨by omega, h91, h79⟩]
              rw [e]
              exact next_two b off _ _ _ w (by omega) c0 (hat 1 (by omega)) h91 h79
      · have e : nextL l0 = (0, 0, 0, 8) := by unfold nextL; rw [if_neg hz, if_pos h27]
        rw [e]
        exact next_other b off _ _ _ w (by omega) c0 h27
  rw [hh] at key
  exact key

end Go.Proofs.YtmdeehblmkpddaaDoor.Hand
