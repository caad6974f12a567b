/- view.Check: a loop over the bytes of a prompt. -/
import Derived.Test.YtoeaidhkohfaoaaDoorHandModes
import Derived.Test.YtoeaidhkohfaoaaDoorHandNext
import Derived.Test.YtoeaidhkohfaoaaDoorHandChar
import Derived.Lib.ConvBytes
import Derived.Lib.UnsafeStr
import Derived.Deep.RegionHeld3
import Derived.Deep.LoopGhost
import Derived.BigQuiet
import Derived.Deep.QuietTactic
namespace Go.Proofs.YtoeaidhkohfaoaaDoor.Hand
open Go.RowKit Go.Proofs.YtoeaidhkohfaoaaDoor.PNext Go.Proofs.YtoeaidhkohfaoaaDoorW.PrintWords Go.Proofs.YtoeaidhkohfaoaaDoorW.PrintLast
set_option linter.unusedVariables false
set_option linter.unusedSimpArgs false

/-- Are bytes characters that may be shown? -/
def fineL : Nat → List Int → Bool
  | 0, _ => true
  | k + 1, l => if l = [] then true else if (nxL l).2.2 = 0 ∧ prn ((nxL l).1 : Int) = true then fineL k (l.drop (nxL l).2.1) else false
theorem fineL_succ (k : Nat) (l : List Int) : fineL (k + 1) l = if l = [] then true else if (nxL l).2.2 = 0 ∧ prn ((nxL l).1 : Int) = true then fineL k (l.drop (nxL l).2.1) else false := rfl
/-- A string's bytes. -/
def sb (s : ByteArray) : List Int := s.data.toList.map fun b => (b.toNat : Int)
theorem sb_length (s : ByteArray) : (sb s).length = s.size := by
  unfold sb
  rw [List.length_map]
  exact Array.length_toList
theorem sb_byte (s : ByteArray) : ∀ x ∈ sb s, 0 ≤ x ∧ x ≤ 255 := by
  intro x hx
  obtain ⟨b, _, rfl⟩ := List.mem_map.1 hx
  have := b.toNat_lt
  omega
theorem nx_le (n b0 b1 b2 b3 : Nat) (hn : 1 ≤ n) : 1 ≤ (nx n b0 b1 b2 b3).2.1 ∧ (nx n b0 b1 b2 b3).2.1 ≤ n := by
  unfold nx
  repeat' split
  all_goals (simp only; omega)
theorem nxL_le {l : List Int} (h : l ≠ []) : 1 ≤ (nxL l).2.1 ∧ (nxL l).2.1 ≤ l.length := by
  unfold nxL
  rw [if_neg h]
  exact nx_le _ _ _ _ _ (List.length_pos_iff.2 h)
def checkI (s : ByteArray) (mode room : Int) : Int := if fineL s.size (sb s) = true then (if 256 < s.size then 10 else if mode < 0 ∨ 3 ≤ mode then 9 else if room < 0 then 3 else 0) else 8

theorem bytes_below (w : World) (e : TypeId) (s : ByteArray) : Below w.heap.size w (Lib.bytesWorld w e s) := Lib.below_freeze (below_alloc (below_drew1 (Below.refl _ _)) _) (Nat.le_refl _) _
theorem bytes_C (w : World) (e : TypeId) (s : ByteArray) (hs : s.size ≤ 9223372036854775807) : Kd.C (Kd.int .u8) (Lib.bytesWorld w e s) (some ⟨w.heap.size, 0, none⟩) (sb s).length (sb s) := by
  refine Kd.C_of_reads (d := (0 : Int)) ⟨rfl, by rw [sb_length]; exact hs, fun _ => ⟨_, rfl, fun j hj => ?_⟩⟩
  rw [sb_length] at hj
  rw [Go.Proofs.YtoeaidhkohfaoaaDoorW.PrintWords.add_plain, Lib.bytesWorld_cell w e s j hj]
  unfold sb
  have hj' : j < s.data.toList.length := hj
  simp [List.getD_eq_getElem?_getD, List.getElem?_map, List.getElem?_eq_getElem hj']

def CheckOk (s : ByteArray) (mode room : Int) (w : World) (r : Int) : Prop := Calls Tryd.prog 11 #[.agg #[.string s, .int .i64 mode, .int .i64 room]] w fun e w' => e = .returned (.int .i64 r) ∧ Below w.heap.size w w'
theorem next_calls (A : Option Addr) (c : Nat) (l : List Int) (w : World) (hr : Kd.C (Kd.int .u8) w A l.length l) (hc : l.length ≤ c) (HU : U8In w) (hb : ∀ x ∈ l, 0 ≤ x ∧ x ≤ 255) :
    Calls Tryd.prog 26 #[.slice A l.length c] w fun e w' => e = .returned (.tuple #[.int .i64 ((nxL l).1 : Int), .int .i64 ((nxL l).2.1 : Int), .int .i64 ((nxL l).2.2 : Int)]) ∧ Below w.heap.size w w' :=
  utf_Next.calls 9 A c l _ _ _ w hr hc HU (next_f 9 (by omega) l hb)
theorem prn_calls (c : Int) (w : World) : Calls Tryd.prog 27 #[.int .i64 c] w fun e w' => e = .returned (.bool (prn c)) ∧ Below w.heap.size w w' :=
  PPrintable.utf_Printable.calls 3 c _ w (prn_eq c 2)

theorem keepC' {W W' : World} {p : Addr} {v : Value} (h : W.cell? p = some v) (hb : Below W.heap.size W W') : W'.cell? p = some v := (hb.cell (World.block_lt_of_cell? W _ h)).trans h
theorem keepB' {w W W' : World} (h : Below w.heap.size w W) (hb : Below W.heap.size W W') : Below w.heap.size w W' := h.trans (hb.mono h.size)
set_option maxHeartbeats 2000000 in
set_option maxRecDepth 100000 in
theorem check_ok (s : ByteArray) (mode room : Int) (hs : s.size ≤ 9223372036854775807) (w : World) (HU : U8In w) : CheckOk s mode room w (checkI s mode room) := by
  unfold CheckOk
  have hconv := fun (w : World) => Lib.run_convert_string_bytes (P := Tryd.prog) w 9 25 5 s Tryd.underlying9 Tryd.underlying25 Tryd.underlying5
  have b1 : Below w.heap.size w (w.alloc (.cells #[.string s, .int .i64 mode, .int .i64 room] 23)) := (Below.refl w.heap.size w).alloc (Nat.le_refl _) _
  have b2 := b1.trans ((bytes_below (w.alloc (.cells #[.string s, .int .i64 mode, .int .i64 room] 23)) 5 s).mono b1.size)
  have hblk := (Lib.bytesWorld_at_old (w.alloc (.cells #[.string s, .int .i64 mode, .int .i64 room] 23)) 5 s w.heap.size (by simp)).trans (heap_alloc_new w _)
  have hC := bytes_C (w.alloc (.cells #[.string s, .int .i64 mode, .int .i64 room] 23)) 5 s hs
  go_enter Tryd.func11, Tryd.ntmps11
  go_wp2_with (fail)
  have hC' : Kd.C (Kd.int .u8) (Lib.bytesWorld (w.alloc (.cells #[.string s, .int .i64 mode, .int .i64 room] 23)) 5 s) (some ⟨w.heap.size + 1, 0, none⟩) (sb s).length (sb s) := by simpa using hC
  have hcap : s.size ≤ grownCap (w.alloc (.cells #[.string s, .int .i64 mode, .int .i64 room] 23)) s.size 0 5 := grownCap_ge _ _ _ _
  clear hC hconv b1
  generalize Lib.bytesWorld (w.alloc (.cells #[.string s, .int .i64 mode, .int .i64 room] 23)) 5 s = W at *
  generalize grownCap (w.alloc (.cells #[.string s, .int .i64 mode, .int .i64 room] 23)) s.size 0 5 = cap at *
  rw [← sb_length s] at hcap ⊢
  have HC := Aside0.mk hC'
  have HB2 := Aside0.mk b2
  have HUW := Aside0.mk (HU.below b2)
  have HBlk := Aside0.mk hblk
  have hF : Aside0 (fineL (sb s).length (sb s) = fineL s.size (sb s)) := ⟨by rw [sb_length]⟩
  have hby : Aside0 (∀ x ∈ sb s, 0 ≤ x ∧ x ≤ 255) := ⟨sb_byte s⟩
  clear hC' b2 hblk
  go_loopg [3] (sb s).length (fun kq v3 w' => ∃ (l : List Int) (A : Option Addr) (c : Nat), v3 = .slice A l.length c ∧ Aside0 (l.length ≤ kq) ∧ Aside0 (l.length ≤ c) ∧ Aside0 (Kd.C (Kd.int .u8) w' A l.length l) ∧ Aside0 (∀ x ∈ l, 0 ≤ x ∧ x ≤ 255) ∧ Aside0 (fineL kq l = fineL s.size (sb s)) ∧ Aside0 (Below W.heap.size W w'))
  case atStart => exact ⟨sb s, _, _, rfl, ⟨Nat.le_refl _⟩, ⟨hcap⟩, HC, hby, hF, ⟨Below.refl _ _⟩⟩
  case round =>
    clear HC hcap hF hby
    obtain ⟨l, A, c, rfl, hk, hc, HC, hby, hF, HB⟩ := hrel
    by_cases hl : l = []
    · subst hl
      have hdone : fineL s.size (sb s) = true := by rw [← hF.out]; cases gk <;> rfl
      have z : Below w.heap.size w wr := HB2.out.trans (HB.out.mono HB2.out.size)
      have z' := Aside0.mk z
      have k0 := cell_stays (blk_cell HBlk.out 0) HB.out
      have k1 := cell_stays (blk_cell HBlk.out 1) HB.out
      have k2 := cell_stays (blk_cell HBlk.out 2) HB.out
      clear hby hF hk hc HC HUW HB2
      clear z HB HBlk
      by_cases h1 : 256 < s.size
      · have hr : checkI s mode room = 10 := by unfold checkI; rw [if_pos hdone, if_pos h1]
        have h1' : (256 : Int) < (s.size : Int) := by omega
        have hr' := Aside0.mk hr
        clear hr hdone h1
        go_wp2_with (fail)
        go_ret
        exact ⟨by rw [hr'.out]; rfl, z'.out⟩
      · by_cases h2 : mode < 0
        · have hr : checkI s mode room = 9 := by unfold checkI; rw [if_pos hdone, if_neg h1, if_pos (.inl h2)]
          have h1' : decide ((256 : Int) < (s.size : Int)) = false := decide_eq_false (by omega)
          have hr' := Aside0.mk hr
          clear hr hdone h1
          go_wp2_with (fail)
          go_quiet (fail)
          go_wp2_with (fail)
          go_ret
          exact ⟨by rw [hr'.out]; rfl, by repeat (first | exact z'.out | apply pw_below_drewN | apply below_drew1)⟩
        · have g1 : decide ((256 : Int) < (s.size : Int)) = false := decide_eq_false (by omega)
          have g2 : decide (mode < 0) = false := decide_eq_false h2
          by_cases h3 : 3 ≤ mode
          · have hr' := Aside0.mk (show checkI s mode room = 9 by unfold checkI; rw [if_pos hdone, if_neg h1, if_pos (.inr h3)])
            clear hdone h1
            go_wp2_with (fail)
            have z := z'.out
            have zd := below_drew1 z
            have kd1 : wr.drew.cell? ⟨w.heap.size, 1, none⟩ = some (.int .i64 mode) := k1
            have kd2 : wr.drew.cell? ⟨w.heap.size, 2, none⟩ = some (.int .i64 room) := k2
            go_region_held3 (fun w' => w'.cell? ⟨w.heap.size, 1, none⟩ = some (.int .i64 mode) ∧ w'.cell? ⟨w.heap.size, 2, none⟩ = some (.int .i64 room) ∧ Below w.heap.size w w') (refine ⟨?_, ?_, ?_⟩ <;> first | assumption | exact k1 | exact k2 | exact z'.out | exact keepC' (by assumption) (by assumption) | exact keepB' (by assumption) (by assumption) | exact below_drew1 z'.out)
              (first | (go_at_call 28; refine (modes_ok _).mono ?_; rintro e w' ⟨b, rfl, _, hb⟩))
            go_wp2_with (fail)
            go_ret
            exact ⟨by rw [hr'.out]; rfl, by first | assumption | exact keepB' z hb | exact keepB' zd hb⟩
          · have g3 : decide (3 ≤ mode) = false := decide_eq_false h3
            by_cases h4 : room < 0
            · have hr' := Aside0.mk (show checkI s mode room = 3 by unfold checkI; rw [if_pos hdone, if_neg h1, if_neg (by omega), if_pos h4])
              clear hdone h1 h2 h3
              go_wp2_with (fail)
              have z := z'.out
              have zd := below_drew1 z
              have kd1 : wr.drew.cell? ⟨w.heap.size, 1, none⟩ = some (.int .i64 mode) := k1
              have kd2 : wr.drew.cell? ⟨w.heap.size, 2, none⟩ = some (.int .i64 room) := k2
              go_region_held3 (fun w' => w'.cell? ⟨w.heap.size, 1, none⟩ = some (.int .i64 mode) ∧ w'.cell? ⟨w.heap.size, 2, none⟩ = some (.int .i64 room) ∧ Below w.heap.size w w') (refine ⟨?_, ?_, ?_⟩ <;> first | assumption | exact k1 | exact k2 | exact z'.out | exact keepC' (by assumption) (by assumption) | exact keepB' (by assumption) (by assumption) | exact below_drew1 z'.out)
                (first | (go_at_call 28; refine (modes_ok _).mono ?_; rintro e w' ⟨b, rfl, _, hb⟩))
              go_wp2_with (fail)
              go_ret
              exact ⟨by rw [hr'.out]; rfl, by first | assumption | exact keepB' z hb | exact keepB' zd hb⟩
            · have hr' := Aside0.mk (show checkI s mode room = 0 by unfold checkI; rw [if_pos hdone, if_neg h1, if_neg (by omega), if_neg h4])
              have g4 : decide (room < 0) = false := decide_eq_false h4
              clear hdone h1 h2 h3 h4
              go_wp2_with (fail)
              have z := z'.out
              have zd := below_drew1 z
              have kd1 : wr.drew.cell? ⟨w.heap.size, 1, none⟩ = some (.int .i64 mode) := k1
              have kd2 : wr.drew.cell? ⟨w.heap.size, 2, none⟩ = some (.int .i64 room) := k2
              go_region_held3 (fun w' => w'.cell? ⟨w.heap.size, 1, none⟩ = some (.int .i64 mode) ∧ w'.cell? ⟨w.heap.size, 2, none⟩ = some (.int .i64 room) ∧ Below w.heap.size w w') (refine ⟨?_, ?_, ?_⟩ <;> first | assumption | exact k1 | exact k2 | exact z'.out | exact keepC' (by assumption) (by assumption) | exact keepB' (by assumption) (by assumption) | exact below_drew1 z'.out)
                (first | (go_at_call 28; refine (modes_ok _).mono ?_; rintro e w' ⟨b, rfl, _, hb⟩))
              go_wp2_with (fail)
              go_ret
              exact ⟨by rw [hr'.out]; rfl, by first | assumption | exact keepB' z hb | exact keepB' zd hb⟩
    · have hpos : decide (0 < (l.length : Int)) = true := decide_eq_true (by have := List.length_pos_iff.2 hl; omega)
      have hle := nxL_le hl
      have hn := next_calls A c l _ HC.out hc.out (HUW.out.below HB.out) hby.out
      obtain ⟨k, rfl⟩ : ∃ k, gk = k + 1 := by
        cases gk with
        | zero => exact absurd (List.eq_nil_of_length_eq_zero (Nat.le_zero.1 hk.out)) hl
        | succ k => exact ⟨k, rfl⟩
      have hstep := hF.out
      rw [fineL_succ, if_neg hl] at hstep
      go_wp2_with (fail)
      refine hn.mono ?_
      rintro e w1 ⟨rfl, hb1⟩
      by_cases he : (nxL l).2.2 = 0
      · have hp := prn_calls ((nxL l).1 : Int) w1
        by_cases hpr : prn ((nxL l).1 : Int) = true
        · rw [if_pos ⟨he, hpr⟩] at hstep
          rw [hpr] at hp
          rw [he]
          obtain ⟨i0, hi0, _, hsz, _⟩ := info_parts PNext.info5
          obtain ⟨A', hcut, hA, hC⟩ := print_drop_of (P := Tryd.prog) (Value.int .u8) 0 25 5 .i64 Tryd.underlying25 hi0 hsz A c l (((nxL l).2.1 : Nat) : Int) (by omega) (by omega) hc.out
          have hR := Aside0.mk (Kd.C_of_reads (h1 := fun _ => rfl) (hA _ (Kd.reads_of_C HC.out)))
          have hC' := Aside0.mk hC
          have hby' := Aside0.mk (show ∀ x ∈ l.drop (nxL l).2.1, 0 ≤ x ∧ x ≤ 255 from fun x hx => hby.out x (List.mem_of_mem_drop hx))
          have hk' := Aside0.mk (show (l.drop (nxL l).2.1).length ≤ k by have := hk.out; rw [List.length_drop]; omega)
          have hF' := Aside0.mk hstep
          clear hA hC hi0 hsz hstep hby hk hF hle hn hpr he
          go_wp2_with (fail)
          refine hp.mono ?_
          rintro e w2 ⟨rfl, hb2⟩
          go_wp2_with (fail)
          go_roundg k
          case measure => omega
          case rel => exact ⟨l.drop (nxL l).2.1, A', _, by rw [List.length_drop], hk', by rw [List.length_drop] at hC' ⊢; exact hC', ⟨Kd.C_below hR.out (hb1.trans (hb2.mono hb1.size))⟩, hby', hF', ⟨HB.out.trans ((hb1.trans (hb2.mono hb1.size)).mono HB.out.size)⟩⟩
        · rw [if_neg (fun h => hpr h.2)] at hstep
          have hr' := Aside0.mk (show checkI s mode room = 8 by unfold checkI; rw [← hstep]; rfl)
          rw [Bool.eq_false_iff.mpr hpr] at hp
          rw [he]
          go_wp2_with (fail)
          refine hp.mono ?_
          rintro e w2 ⟨rfl, hb2⟩
          go_wp2_with (fail)
          go_ret
          exact ⟨by rw [hr'.out]; rfl, ((HB2.out.trans (HB.out.mono HB2.out.size)).trans (hb1.mono (Nat.le_trans HB2.out.size HB.out.size))).trans (hb2.mono (Nat.le_trans (Nat.le_trans HB2.out.size HB.out.size) hb1.size))⟩
      · have hne : (((nxL l).2.2 : Nat) : Int) ≠ 0 := by omega
        have hne' : ((((nxL l).2.2 : Nat) : Int) != 0) = true := by simpa using he
        rw [if_neg (fun h => he h.1)] at hstep
        have hr' := Aside0.mk (show checkI s mode room = 8 by unfold checkI; rw [← hstep]; rfl)
        go_wp2_with (fail)
        go_ret
        exact ⟨by rw [hr'.out]; rfl, (HB2.out.trans (HB.out.mono HB2.out.size)).trans (hb1.mono (Nat.le_trans HB2.out.size HB.out.size))⟩

def view_Check.f (a0_0 : ByteArray) (a0_1 a0_2 : Int) : Option Int := if a0_0.size ≤ 9223372036854775807 then some (checkI a0_0 a0_1 a0_2) else none
theorem view_Check.calls (a0_0 : ByteArray) (a0_1 a0_2 : Int) (r : Int) (w : World) (HU : U8In w) (h : view_Check.f a0_0 a0_1 a0_2 = some r) :
    Calls Tryd.prog 11 #[.agg #[.string a0_0, .int .i64 a0_1, .int .i64 a0_2]] w fun e w' => e = .returned (.int .i64 r) ∧ Below w.heap.size w w' := by
  unfold view_Check.f at h
  by_cases hs : a0_0.size ≤ 9223372036854775807
  · rw [if_pos hs] at h
    obtain rfl := Option.some.inj h
    exact check_ok a0_0 a0_1 a0_2 hs w HU
  · rw [if_neg hs] at h
    cases h

end Go.Proofs.YtoeaidhkohfaoaaDoor.Hand
