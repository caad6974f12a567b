/- view.Check: a loop over the bytes of a prompt. -/
import Derived.Test.YtmdeehblmkpddaaDoorHandModes
import Derived.Test.YtmdeehblmkpddaaDoorHandNext
import Derived.Test.YtmdeehblmkpddaaDoorHandChar
import Derived.Lib.ConvBytes
import Derived.Lib.UnsafeStr
import Derived.Deep.RegionHeld3
import Derived.Deep.LoopGhost
import Derived.BigQuiet
import Derived.Deep.QuietTactic
import Derived.Test.YtmdeehblmkpddaaDoorHandShelf
import Derived.Lib.MakeNoZero
import Derived.Laws.CopyRow
import Derived.Laws.CopyOwn
import Derived.Laws.IdiomCopy
import Derived.Deep.RegionLaw
import Derived.Lib.AppendStr
import Derived.OwnWalk
import Derived.Lib.SmallJoins
import Derived.Lib.ItoaLen
namespace Go.Proofs.YtmdeehblmkpddaaDoor.Hand
open Go.RowKit Go.Proofs.YtmdeehblmkpddaaDoor.PNext Go.Proofs.YtmdeehblmkpddaaDoorW.PrintWords Go.Proofs.YtmdeehblmkpddaaDoorW.PrintLast
set_option linter.unusedVariables false
set_option linter.unusedSimpArgs false

/-- Are bytes characters that may be shown? -/
def fineL : Nat → List Int → Bool
  | 0, _ => true
  | k + 1, l => if l = [] then true else if (nxL l).2.2 = 0 ∧ prn ((nxL l).1 : Int) = true then fineL k (l.drop (nxL l).2.1) else false
theorem fineL_succ (k : Nat) (l : List Int) : fineL (k + 1) l = if l = [] then true else if (nxL l).2.2 = 0 ∧ prn ((nxL l).1 : Int) = true then fineL k (l.drop (nxL l).2.1) else false := rfl
/-- A string's bytes. -/
def sb (s : ByteArray) : List Int := s.data.toList.map fun b => (b.toNat : Int)
theorem sb_length (s : ByteArray) : (sb s).length = s.size := by
  unfold sb
  rw [List.length_map]
  exact Array.length_toList
theorem sb_byte (s : ByteArray) : ∀ x ∈ sb s, 0 ≤ x ∧ x ≤ 255 := by
  intro x hx
  obtain ⟨b, _, rfl⟩ := List.mem_map.1 hx
  have := b.toNat_lt
  omega
theorem nx_le (n b0 b1 b2 b3 : Nat) (hn : 1 ≤ n) : 1 ≤ (nx n b0 b1 b2 b3).2.1 ∧ (nx n b0 b1 b2 b3).2.1 ≤ n := by
  unfold nx
  repeat' split
  all_goals (simp only; omega)
theorem nxL_le {l : List Int} (h : l ≠ []) : 1 ≤ (nxL l).2.1 ∧ (nxL l).2.1 ≤ l.length := by
  unfold nxL
  rw [if_neg h]
  exact nx_le _ _ _ _ _ (List.length_pos_iff.2 h)
def checkI (s : ByteArray) (mode room : Int) : Int := if fineL s.size (sb s) = true then (if 256 < s.size then 10 else if mode < 0 ∨ 3 ≤ mode then 9 else if room < 0 then 3 else 0) else 8

theorem bytes_below (w : World) (e : TypeId) (s : ByteArray) : Below w.heap.size w (Lib.bytesWorld w e s) := Lib.below_freeze (below_alloc (below_drew1 (Below.refl _ _)) _) (Nat.le_refl _) _
theorem bytes_C (w : World) (e : TypeId) (s : ByteArray) (hs : s.size ≤ 9223372036854775807) : Kd.C (Kd.int .u8) (Lib.bytesWorld w e s) (some ⟨w.heap.size, 0, none⟩) (sb s).length (sb s) := by
  refine Kd.C_of_reads (d := (0 : Int)) ⟨rfl, by rw [sb_length]; exact hs, fun _ => ⟨_, rfl, fun j hj => ?_⟩⟩
  rw [sb_length] at hj
  rw [Go.Proofs.YtmdeehblmkpddaaDoorW.PrintWords.add_plain, Lib.bytesWorld_cell w e s j hj]
  unfold sb
  have hj' : j < s.data.toList.length := hj
  simp [List.getD_eq_getElem?_getD, List.getElem?_map, List.getElem?_eq_getElem hj']

def CheckOk (s : ByteArray) (mode room : Int) (w : World) (r : Int) : Prop := Calls Tryd.prog 43 #[.agg #[.string s, .int .i64 mode, .int .i64 room]] w fun e w' => e = .returned (.int .i64 r) ∧ Below w.heap.size w w'
theorem next_calls (A : Option Addr) (c : Nat) (l : List Int) (w : World) (hr : Kd.C (Kd.int .u8) w A l.length l) (hc : l.length ≤ c) (HU : U8In w) (hb : ∀ x ∈ l, 0 ≤ x ∧ x ≤ 255) :
    Calls Tryd.prog 50 #[.slice A l.length c] w fun e w' => e = .returned (.tuple #[.int .i64 ((nxL l).1 : Int), .int .i64 ((nxL l).2.1 : Int), .int .i64 ((nxL l).2.2 : Int)]) ∧ Below w.heap.size w w' :=
  utf_Next.calls 9 A c l _ _ _ w hr hc HU (next_f 9 (by omega) l hb)
theorem prn_calls (c : Int) (w : World) : Calls Tryd.prog 18 #[.int .i64 c] w fun e w' => e = .returned (.bool (prn c)) ∧ Below w.heap.size w w' :=
  PPrintable.utf_Printable.calls 3 c _ w (prn_eq c 2)

theorem keepC' {W W' : World} {p : Addr} {v : Value} (h : W.cell? p = some v) (hb : Below W.heap.size W W') : W'.cell? p = some v := (hb.cell (World.block_lt_of_cell? W _ h)).trans h
theorem keepB' {w W W' : World} (h : Below w.heap.size w W) (hb : Below W.heap.size W W') : Below w.heap.size w W' := h.trans (hb.mono h.size)
set_option maxHeartbeats 2000000 in
set_option maxRecDepth 100000 in
theorem check_ok (s : ByteArray) (mode room : Int) (hs : s.size ≤ 9223372036854775807) (w : World) (HU : U8In w) : CheckOk s mode room w (checkI s mode room) := by
  unfold CheckOk
  have hconv := fun (w : World) => Lib.run_convert_string_bytes (P := Tryd.prog) w 9 22 5 s Tryd.underlying9 Tryd.underlying22 Tryd.underlying5
  have b1 : Below w.heap.size w (w.alloc (.cells #[.string s, .int .i64 mode, .int .i64 room] 53)) := (Below.refl w.heap.size w).alloc (Nat.le_refl _) _
  have b2 := b1.trans ((bytes_below (w.alloc (.cells #[.string s, .int .i64 mode, .int .i64 room] 53)) 5 s).mono b1.size)
  have hblk := (Lib.bytesWorld_at_old (w.alloc (.cells #[.string s, .int .i64 mode, .int .i64 room] 53)) 5 s w.heap.size (by simp)).trans (heap_alloc_new w _)
  have hC := bytes_C (w.alloc (.cells #[.string s, .int .i64 mode, .int .i64 room] 53)) 5 s hs
  go_enter Tryd.func43, Tryd.ntmps43
  go_wp2_with (fail)
  have hC' : Kd.C (Kd.int .u8) (Lib.bytesWorld (w.alloc (.cells #[.string s, .int .i64 mode, .int .i64 room] 53)) 5 s) (some ⟨w.heap.size + 1, 0, none⟩) (sb s).length (sb s) := by simpa using hC
  have hcap : s.size ≤ grownCap (w.alloc (.cells #[.string s, .int .i64 mode, .int .i64 room] 53)) s.size 0 5 := grownCap_ge _ _ _ _
  clear hC hconv b1
  generalize Lib.bytesWorld (w.alloc (.cells #[.string s, .int .i64 mode, .int .i64 room] 53)) 5 s = W at *
  generalize grownCap (w.alloc (.cells #[.string s, .int .i64 mode, .int .i64 room] 53)) s.size 0 5 = cap at *
  rw [← sb_length s] at hcap ⊢
  have HC := Aside0.mk hC'
  have HB2 := Aside0.mk b2
  have HUW := Aside0.mk (HU.below b2)
  have HBlk := Aside0.mk hblk
  have hF : Aside0 (fineL (sb s).length (sb s) = fineL s.size (sb s)) := ⟨by rw [sb_length]⟩
  have hby : Aside0 (∀ x ∈ sb s, 0 ≤ x ∧ x ≤ 255) := ⟨sb_byte s⟩
  clear hC' b2 hblk
  go_loopg [3] (sb s).length (fun kq v3 w' => ∃ (l : List Int) (A : Option Addr) (c : Nat), v3 = .slice A l.length c ∧ Aside0 (l.length ≤ kq) ∧ Aside0 (l.length ≤ c) ∧ Aside0 (Kd.C (Kd.int .u8) w' A l.length l) ∧ Aside0 (∀ x ∈ l, 0 ≤ x ∧ x ≤ 255) ∧ Aside0 (fineL kq l = fineL s.size (sb s)) ∧ Aside0 (Below W.heap.size W w'))
  case atStart => exact ⟨sb s, _, _, rfl, ⟨Nat.le_refl _⟩, ⟨hcap⟩, HC, hby, hF, ⟨Below.refl _ _⟩⟩
  case round =>
    clear HC hcap hF hby
    obtain ⟨l, A, c, rfl, hk, hc, HC, hby, hF, HB⟩ := hrel
    by_cases hl : l = []
    · subst hl
      have hdone : fineL s.size (sb s) = true := by rw [← hF.out]; cases gk <;> rfl
      have z : Below w.heap.size w wr := HB2.out.trans (HB.out.mono HB2.out.size)
      have z' := Aside0.mk z
      have k0 := cell_stays (blk_cell HBlk.out 0) HB.out
      have k1 := cell_stays (blk_cell HBlk.out 1) HB.out
      have k2 := cell_stays (blk_cell HBlk.out 2) HB.out
      clear hby hF hk hc HC HUW HB2
      clear z HB HBlk
      by_cases h1 : 256 < s.size
      · have hr : checkI s mode room = 10 := by unfold checkI; rw [if_pos hdone, if_pos h1]
        have h1' : (256 : Int) < (s.size : Int) := by omega
        have hr' := Aside0.mk hr
        clear hr hdone h1
        go_wp2_with (fail)
        go_ret
        exact ⟨by rw [hr'.out]; rfl, z'.out⟩
      · by_cases h2 : mode < 0
        · have hr : checkI s mode room = 9 := by unfold checkI; rw [if_pos hdone, if_neg h1, if_pos (.inl h2)]
          have h1' : decide ((256 : Int) < (s.size : Int)) = false := decide_eq_false (by omega)
          have hr' := Aside0.mk hr
          clear hr hdone h1
          go_wp2_with (fail)
          go_quiet (fail)
          go_wp2_with (fail)
          go_ret
          exact ⟨by rw [hr'.out]; rfl, by repeat (first | exact z'.out | apply pw_below_drewN | apply below_drew1)⟩
        · have g1 : decide ((256 : Int) < (s.size : Int)) = false := decide_eq_false (by omega)
          have g2 : decide (mode < 0) = false := decide_eq_false h2
          by_cases h3 : 3 ≤ mode
          · have hr' := Aside0.mk (show checkI s mode room = 9 by unfold checkI; rw [if_pos hdone, if_neg h1, if_pos (.inr h3)])
            clear hdone h1
            go_wp2_with (fail)
            have z := z'.out
            have zd := below_drew1 z
            have kd1 : wr.drew.cell? ⟨w.heap.size, 1, none⟩ = some (.int .i64 mode) := k1
            have kd2 : wr.drew.cell? ⟨w.heap.size, 2, none⟩ = some (.int .i64 room) := k2
            go_region_held3 (fun w' => w'.cell? ⟨w.heap.size, 1, none⟩ = some (.int .i64 mode) ∧ w'.cell? ⟨w.heap.size, 2, none⟩ = some (.int .i64 room) ∧ Below w.heap.size w w') (refine ⟨?_, ?_, ?_⟩ <;> first | assumption | exact k1 | exact k2 | exact z'.out | exact keepC' (by assumption) (by assumption) | exact keepB' (by assumption) (by assumption) | exact below_drew1 z'.out)
              (first | (go_at_call 47; refine (modes_ok _).mono ?_; rintro e w' ⟨b, rfl, _, hb⟩))
            go_wp2_with (fail)
            go_ret
            exact ⟨by rw [hr'.out]; rfl, by first | assumption | exact keepB' z hb | exact keepB' zd hb⟩
          · have g3 : decide (3 ≤ mode) = false := decide_eq_false h3
            by_cases h4 : room < 0
            · have hr' := Aside0.mk (show checkI s mode room = 3 by unfold checkI; rw [if_pos hdone, if_neg h1, if_neg (by omega), if_pos h4])
              clear hdone h1 h2 h3
              go_wp2_with (fail)
              have z := z'.out
              have zd := below_drew1 z
              have kd1 : wr.drew.cell? ⟨w.heap.size, 1, none⟩ = some (.int .i64 mode) := k1
              have kd2 : wr.drew.cell? ⟨w.heap.size, 2, none⟩ = some (.int .i64 room) := k2
              go_region_held3 (fun w' => w'.cell? ⟨w.heap.size, 1, none⟩ = some (.int .i64 mode) ∧ w'.cell? ⟨w.heap.size, 2, none⟩ = some (.int .i64 room) ∧ Below w.heap.size w w') (refine ⟨?_, ?_, ?_⟩ <;> first | assumption | exact k1 | exact k2 | exact z'.out | exact keepC' (by assumption) (by assumption) | exact keepB' (by assumption) (by assumption) | exact below_drew1 z'.out)
                (first | (go_at_call 47; refine (modes_ok _).mono ?_; rintro e w' ⟨b, rfl, _, hb⟩))
              go_wp2_with (fail)
              go_ret
              exact ⟨by rw [hr'.out]; rfl, by first | assumption | exact keepB' z hb | exact keepB' zd hb⟩
            · have hr' := Aside0.mk (show checkI s mode room = 0 by unfold checkI; rw [if_pos hdone, if_neg h1, if_neg (by omega), if_neg h4])
              have g4 : decide (room < 0) = false := decide_eq_false h4
              clear hdone h1 h2 h3 h4
              go_wp2_with (fail)
              have z := z'.out
              have zd := below_drew1 z
              have kd1 : wr.drew.cell? ⟨w.heap.size, 1, none⟩ = some (.int .i64 mode) := k1
              have kd2 : wr.drew.cell? ⟨w.heap.size, 2, none⟩ = some (.int .i64 room) := k2
              go_region_held3 (fun w' => w'.cell? ⟨w.heap.size, 1, none⟩ = some (.int .i64 mode) ∧ w'.cell? ⟨w.heap.size, 2, none⟩ = some (.int .i64 room) ∧ Below w.heap.size w w') (refine ⟨?_, ?_, ?_⟩ <;> first | assumption | exact k1 | exact k2 | exact z'.out | exact keepC' (by assumption) (by assumption) | exact keepB' (by assumption) (by assumption) | exact below_drew1 z'.out)
                (first | (go_at_call 47; refine (modes_ok _).mono ?_; rintro e w' ⟨b, rfl, _, hb⟩))
              go_wp2_with (fail)
              go_ret
              exact ⟨by rw [hr'.out]; rfl, by first | assumption | exact keepB' z hb | exact keepB' zd hb⟩
    · have hpos : decide (0 < (l.length : Int)) = true := decide_eq_true (by have := List.length_pos_iff.2 hl; omega)
      have hle := nxL_le hl
      have hn := next_calls A c l _ HC.out hc.out (HUW.out.below HB.out) hby.out
      obtain ⟨k, rfl⟩ : ∃ k, gk = k + 1 := by
        cases gk with
        | zero => exact absurd (List.eq_nil_of_length_eq_zero (Nat.le_zero.1 hk.out)) hl
        | succ k => exact ⟨k, rfl⟩
      have hstep := hF.out
      rw [fineL_succ, if_neg hl] at hstep
      go_wp2_with (fail)
      refine hn.mono ?_
      rintro e w1 ⟨rfl, hb1⟩
      by_cases he : (nxL l).2.2 = 0
      · have hp := prn_calls ((nxL l).1 : Int) w1
        by_cases hpr : prn ((nxL l).1 : Int) = true
        · rw [if_pos ⟨he, hpr⟩] at hstep
          rw [hpr] at hp
          rw [he]
          obtain ⟨i0, hi0, _, hsz, _⟩ := info_parts PNext.info5
          obtain ⟨A', hcut, hA, hC⟩ := print_drop_of (P := Tryd.prog) (Value.int .u8) 0 22 5 .i64 Tryd.underlying22 hi0 hsz A c l (((nxL l).2.1 : Nat) : Int) (by omega) (by omega) hc.out
          have hR := Aside0.mk (Kd.C_of_reads (h1 := fun _ => rfl) (hA _ (Kd.reads_of_C HC.out)))
          have hC' := Aside0.mk hC
          have hby' := Aside0.mk (show ∀ x ∈ l.drop (nxL l).2.1, 0 ≤ x ∧ x ≤ 255 from fun x hx => hby.out x (List.mem_of_mem_drop hx))
          have hk' := Aside0.mk (show (l.drop (nxL l).2.1).length ≤ k by have := hk.out; rw [List.length_drop]; omega)
          have hF' := Aside0.mk hstep
          clear hA hC hi0 hsz hstep hby hk hF hle hn hpr he
          go_wp2_with (fail)
          refine hp.mono ?_
          rintro e w2 ⟨rfl, hb2⟩
          go_wp2_with (fail)
          go_roundg k
          case measure => omega
          case rel => exact ⟨l.drop (nxL l).2.1, A', _, by rw [List.length_drop], hk', by rw [List.length_drop] at hC' ⊢; exact hC', ⟨Kd.C_below hR.out (hb1.trans (hb2.mono hb1.size))⟩, hby', hF', ⟨HB.out.trans ((hb1.trans (hb2.mono hb1.size)).mono HB.out.size)⟩⟩
        · rw [if_neg (fun h => hpr h.2)] at hstep
          have hr' := Aside0.mk (show checkI s mode room = 8 by unfold checkI; rw [← hstep]; rfl)
          rw [Bool.eq_false_iff.mpr hpr] at hp
          rw [he]
          go_wp2_with (fail)
          refine hp.mono ?_
          rintro e w2 ⟨rfl, hb2⟩
          go_wp2_with (fail)
          go_ret
          exact ⟨by rw [hr'.out]; rfl, ((HB2.out.trans (HB.out.mono HB2.out.size)).trans (hb1.mono (Nat.le_trans HB2.out.size HB.out.size))).trans (hb2.mono (Nat.le_trans (Nat.le_trans HB2.out.size HB.out.size) hb1.size))⟩
      · have hne : (((nxL l).2.2 : Nat) : Int) ≠ 0 := by omega
        have hne' : ((((nxL l).2.2 : Nat) : Int) != 0) = true := by simpa using he
        rw [if_neg (fun h => he h.1)] at hstep
        have hr' := Aside0.mk (show checkI s mode room = 8 by unfold checkI; rw [← hstep]; rfl)
        go_wp2_with (fail)
        go_ret
        exact ⟨by rw [hr'.out]; rfl, (HB2.out.trans (HB.out.mono HB2.out.size)).trans (hb1.mono (Nat.le_trans HB2.out.size HB.out.size))⟩

def view_Check.f (a0_0 : ByteArray) (a0_1 a0_2 : Int) : Option Int := if a0_0.size ≤ 9223372036854775807 then some (checkI a0_0 a0_1 a0_2) else none
theorem view_Check.calls (a0_0 : ByteArray) (a0_1 a0_2 : Int) (r : Int) (w : World) (HU : U8In w) (h : view_Check.f a0_0 a0_1 a0_2 = some r) :
    Calls Tryd.prog 43 #[.agg #[.string a0_0, .int .i64 a0_1, .int .i64 a0_2]] w fun e w' => e = .returned (.int .i64 r) ∧ Below w.heap.size w w' := by
  unfold view_Check.f at h
  by_cases hs : a0_0.size ≤ 9223372036854775807
  · rw [if_pos hs] at h
    obtain rfl := Option.some.inj h
    exact check_ok a0_0 a0_1 a0_2 hs w HU
  · rw [if_neg hs] at h
    cases h

end Go.Proofs.YtmdeehblmkpddaaDoor.Hand

namespace Go.Proofs.YtmdeehblmkpddaaDoor.Hand
open Go.RowKit Go.Proofs.YtmdeehblmkpddaaDoorW.PrintWords Go.Proofs.YtmdeehblmkpddaaDoorW.PrintLast
set_option linter.unusedVariables false
set_option linter.unusedSimpArgs false

def RepOk (A : Option Addr) (c : Nat) (n : Nat) (w : World) : Prop := Calls Tryd.prog 45 #[.slice A 1 c, .int .i64 n] w fun e w' => ∃ A' c', e = .returned (.slice A' n c') ∧ n ≤ c' ∧ Kd.C (Kd.int .u8) w' A' n (List.replicate n 42) ∧ Below w.heap.size w w'

set_option maxHeartbeats 1000000 in
set_option maxRecDepth 100000 in
theorem rep_0 (A : Option Addr) (c : Nat) (w : World) : RepOk A c 0 w := by
  unfold RepOk
  go_enter Tryd.func45, Tryd.ntmps45
  go_wp2_with (fail)
  go_ret
  exact ⟨_, _, rfl, Nat.le_refl _, Kd.C_of_reads (d := (0 : Int)) ⟨rfl, by simp, fun h => absurd h (by simp)⟩, (Below.refl w.heap.size w).alloc (Nat.le_refl _) _⟩

/-- The first cells are stars. -/
def Stars (cur : List Value) (k : Nat) : Prop := ∀ j, j < k → cur[j]? = some (.int .u8 42)
theorem stars_splice {cur : List Value} {b m : Nat} (h : Stars cur b) (hm : b + m ≤ cur.length) : Stars (splice cur b (List.replicate m (.int .u8 42))) (b + m) := by
  intro j hj
  unfold splice
  have hl : (cur.take b).length = b := by rw [List.length_take]; omega
  by_cases h1 : j < b
  · rw [List.getElem?_append_left (by omega), List.getElem?_take, if_pos h1]
    exact h j h1
  · rw [List.getElem?_append_right (by omega), List.getElem?_append_left (by rw [List.length_replicate]; omega), List.getElem?_replicate, if_pos (by omega)]
theorem splice_length (cur : List Value) (b : Nat) (cs : List Value) (hm : b + cs.length ≤ cur.length) : (splice cur b cs).length = cur.length := by
  unfold splice
  simp
  omega

set_option maxHeartbeats 1000000 in
set_option maxRecDepth 100000 in
theorem rep_n (A : Option Addr) (c : Nat) (n : Nat) (h1 : 1 ≤ n) (hn : n ≤ 1024) (w : World) (hC : Kd.C (Kd.int .u8) w A 1 [42]) (hc : 1 ≤ c) : RepOk A c n w := by
  unfold RepOk
  have hr := Kd.reads_of_C (d := (0 : Int)) hC
  obtain ⟨ad, rfl, hcell⟩ := hr.2.2 (by decide)
  have hsrc0 := hcell 0 (by decide)
  have hlt := World.block_lt_of_cell? w _ hsrc0
  obtain ⟨cs, hrunM, hle, _⟩ := Lib.run_makeNoZero (P := Tryd.prog) w #[3] 22 5 Tryd.underlying22 n (by omega)
  have hmk : (callFunc 60 #[.int .i64 n]).run Tryd.prog w = .ok (.value (.slice (some ⟨w.heap.size, 0, none⟩) n cs.size)) (w.drew.drew.alloc (.cells cs 5)) := by
    rw [run_callFunc_extern Tryd.func60 (by kernel_rfl) (by kernel_rfl) (by kernel_rfl) (e := Extern.BytealgMakeNoZero.makeNoZero #[3] #[22]) (by kernel_rfl), hrunM]
    rfl
  have hm : Calls Tryd.prog 59 #[.int .u64 1, .int .u64 n] w fun e w' => e = .returned (.tuple #[.int .u64 0, .int .u64 n]) ∧ w' = w := by
    have := Tryd.bits_Mul 1 n (by omega) (by omega) w
    rw [Nat.one_mul, Nat.div_eq_of_lt (by omega), Nat.mod_eq_of_lt (by omega)] at this
    exact this
  clear hrunM hC hr
  have e0 : ((n : Int) == 0) = false := by simp; omega
  have e1 : decide ((n : Int) < 0) = false := by simp
  have e3 : decide ((8192 : Int) < (n : Int)) = false := by simp; omega
  have ew : IntKind.u64.wrap (n : Int) = n := by unfold IntKind.wrap; simp [IntKind.bits]; omega
  have e4 : decide ((9223372036854775807 : Int) < (n : Int)) = false := by simp; omega
  have z1 : Below w.heap.size w (w.drew.drew.alloc (.cells cs 5)) := below_alloc (below_drew1 (below_drew1 (Below.refl _ _))) _
  have hg1 : (w.drew.drew.alloc (.cells cs 5)).heap[w.heap.size]? = some (.cells cs.toList.toArray 5 (0, 0)) := heap_alloc_new w.drew.drew _
  go_enter Tryd.func45, Tryd.ntmps45
  go_wp2_with (fail)
  refine hm.mono ?_
  rintro e w1 ⟨rfl, rfl⟩
  have hgW : (w1.alloc (.cells cs 5)).drew.drew.heap[w1.heap.size]? = some (.cells cs 5 (0, 0)) := heap_alloc_new w1 _
  have hin : (Tryd.prog.info? 5).map (·.size) = some 1 := by kernel_rfl
  obtain ⟨W, cur1, hcp, zW, gW, hlen, hst⟩ : ∃ (W : World) (cur1 : List Value), (Builtin.copy_ #[22, 22] 3 #[.slice (some ⟨w1.heap.size, 0, none⟩) n n, .slice (some ad) 1 c]).run Tryd.prog (w1.alloc (.cells cs 5)).drew.drew = .ok (.int .i64 1) W ∧
      Below w1.heap.size w1 W ∧ W.heap[w1.heap.size]? = some (.cells cur1.toArray 5 (0, 0)) ∧ n ≤ cur1.length ∧ Stars cur1 1 := by
    have hcp : (Builtin.copy_ #[22, 22] 3 #[.slice (some ⟨w1.heap.size, 0, none⟩) n n, .slice (some ad) 1 c]).run Tryd.prog (w1.alloc (.cells cs 5)).drew.drew = .ok (.int .i64 1) ((w1.alloc (.cells cs 5)).drew.drew.setRow w1.heap.size (cs.toList.take 0 ++ [Value.int .u8 42] ++ cs.toList.drop (0 + 1)).toArray) :=
      run_copy_row (P := Tryd.prog) (w1.alloc (.cells cs 5)).drew.drew 22 22 3 5 w1.heap.size 0 n n ad 1 c cs 5 [Value.int .u8 42] Tryd.underlying22 hin hgW (by show 1 = min 1 n; omega)
        (fun j v hj => by
          have : j = 0 := by
            have := (List.getElem?_eq_some_iff.1 hj).1
            simpa using this
          subst this
          obtain rfl := Option.some.inj hj
          exact cell_stays hsrc0 (below_drew1 (below_drew1 (below_alloc (Below.refl _ _) _)))) (by show 0 + 1 ≤ cs.size; omega) (by simp [Value.oneCell'])
    have zW : Below w1.heap.size w1 ((w1.alloc (.cells cs 5)).drew.drew.setRow w1.heap.size (cs.toList.take 0 ++ [Value.int .u8 42] ++ cs.toList.drop (0 + 1)).toArray) := below_setRow (below_drew1 (below_drew1 (below_alloc (Below.refl _ _) _))) (Nat.le_refl _) _
    have gW := setRow_heap (w1.alloc (.cells cs 5)).drew.drew w1.heap.size cs (cs.toList.take 0 ++ [Value.int .u8 42] ++ cs.toList.drop (0 + 1)).toArray 5 _ hgW
    have hlen : n ≤ (cs.toList.take 0 ++ [Value.int .u8 42] ++ cs.toList.drop (0 + 1)).length := by simp; omega
    have hst : Stars (cs.toList.take 0 ++ [Value.int .u8 42] ++ cs.toList.drop (0 + 1)) 1 := by
      intro j hj
      obtain rfl : j = 0 := by omega
      rfl
    exact ⟨_, _, hcp, zW, gW, hlen, hst⟩
  clear hg1 z1 hcell hsrc0 hgW hm
  go_wp2_with (fail)
  have HB := Aside0.mk zW
  have HG := Aside0.mk gW
  have HL := Aside0.mk hlen
  have HS := Aside0.mk hst
  clear zW gW hlen hst hcp hmk e1 e3 ew e4 hle
  go_loopg [10] n (fun kq v10 w' => ∃ (bp : Nat) (cur : List Value), v10 = .int .i64 bp ∧ Aside0 (1 ≤ bp ∧ bp ≤ n ∧ n - bp ≤ kq) ∧ Aside0 (w'.heap[w1.heap.size]? = some (.cells cur.toArray 5 (0, 0))) ∧ Aside0 (n ≤ cur.length) ∧ Aside0 (Stars cur bp) ∧ Aside0 (Below w1.heap.size w1 w'))
  case atStart => exact ⟨1, cur1, rfl, ⟨by omega⟩, HG, HL, HS, HB⟩
  case round =>
    clear HB HG HL HS
    obtain ⟨bp, cur, rfl, hk, HG, HL, HS, HB⟩ := hrel
    have hk' := hk.out
    by_cases hlt' : bp < n
    · obtain ⟨k, rfl⟩ : ∃ k, gk = k + 1 := ⟨gk - 1, by omega⟩
      have f1 : (bp : Int) < (n : Int) := by omega
      have f2 : decide ((n : Int) < (bp : Int)) = false := by simp; omega
      have f3 : (bp : Int) ≤ (n : Int) := by omega
      have f4 : decide (bp < n) = true := by simp; omega
      have hmin : min (bp : Int) (n : Int) = bp := by omega
      obtain ⟨m, hm, hm1, hm2, hm3⟩ : ∃ m : Nat, m = Nat.min bp (n - bp) ∧ 1 ≤ m ∧ bp + m ≤ n ∧ m ≤ bp := ⟨Nat.min bp (n - bp), rfl, by simp only [Nat.min_def]; split <;> omega, by simp only [Nat.min_def]; split <;> omega, Nat.min_le_left _ _⟩
      have hw : IntKind.i64.wrap ((bp : Int) + ((bp.min (n - bp) : Nat) : Int)) = ((bp + m : Nat) : Int) := by rw [← hm]; unfold IntKind.wrap; simp [IntKind.bits]; omega
      have hfit : bp + (List.replicate m (Value.int .u8 42)).length ≤ cur.length := by rw [List.length_replicate]; have := HL.out; omega
      have hlr : (List.replicate m (Value.int .u8 42)).length = Nat.min bp (n - bp) := by rw [List.length_replicate]; exact hm
      have hS' := Aside0.mk (stars_splice HS.out (show bp + m ≤ cur.length by have := HL.out; omega))
      have hL' := Aside0.mk (show n ≤ (splice cur bp (List.replicate m (Value.int .u8 42))).length by rw [splice_length _ _ _ hfit]; exact HL.out)
      have hk2 := Aside0.mk (show 1 ≤ bp + m ∧ bp + m ≤ n ∧ n - (bp + m) ≤ k by omega)
      have hsrc : ∀ j v, (List.replicate m (Value.int .u8 42))[j]? = some v → wr.cell? ((⟨w1.heap.size, 0, none⟩ : Addr).add j) = some v := by
        intro j v hj
        rw [List.getElem?_replicate] at hj
        split at hj
        · rename_i hjm
          obtain rfl := Option.some.inj hj
          rw [Go.Proofs.YtmdeehblmkpddaaDoorW.PrintWords.add_plain, blk_cell HG.out]
          have := HS.out j (by omega)
          simpa using this
        · cases hj
      have hv1 : ∀ v ∈ List.replicate m (Value.int .u8 42), v.oneCell' = true := by
        intro v hv
        rw [List.eq_of_mem_replicate hv]
        rfl
      have hsrc' := Aside0.mk hsrc
      clear hsrc hm3
      have hnb : ¬ n = bp := by omega
      have hHG := HG.out
      have hHB := HB.out
      clear hk' hk HS HL hm hm1
      go_wp2_with (fail)
      go_region_law (refine step_copy_splice rfl (.tmp 70) (.tmp 73) 22 22 rfl 5 Tryd.underlying22 hin (some ⟨w1.heap.size, bp, none⟩) (some ⟨w1.heap.size, 0, none⟩) (n - bp) (n - bp) bp n (by simp [Act.eval, Act.put, hnb]) (by simp [Act.eval, Act.put]) w1.heap.size bp cur 5 hHG (List.replicate m (Value.int .u8 42)) hlr (fun _ => ⟨rfl, _, rfl, hsrc'.out⟩) hfit hv1 w1.heap.size w1 (by repeat (first | exact hHB | apply below_drew1 | apply pw_below_drewN)) (Nat.le_refl _) ?_; intro w4 hg4 hb4)
      go_wp2_with (fail)
      go_roundg k
      case measure => omega
      case rel => exact ⟨bp + m, _, rfl, hk2, ⟨hg4⟩, hL', hS', ⟨hb4⟩⟩
    · have f1 : decide ((bp : Int) < (n : Int)) = false := by simp; omega
      obtain rfl : bp = n := by omega
      clear hk'
      go_wp2_with (fail)
      go_ret
      refine ⟨_, _, rfl, Nat.le_refl _, ?_, HB.out⟩
      refine Kd.C_of_reads (d := (0 : Int)) ⟨List.length_replicate, by omega, fun _ => ⟨_, rfl, fun j hj => ?_⟩⟩
      rw [Go.Proofs.YtmdeehblmkpddaaDoorW.PrintWords.add_plain, blk_cell HG.out]
      have hj' : j < bp := by simpa using hj
      have := HS.out j hj'
      simp [List.getD_eq_getElem?_getD, List.getElem?_replicate, hj', this]

end Go.Proofs.YtmdeehblmkpddaaDoor.Hand

namespace Go.Proofs.YtmdeehblmkpddaaDoor.Hand
open Go.RowKit Go.Proofs.YtmdeehblmkpddaaDoorW.PrintWords Go.Proofs.YtmdeehblmkpddaaDoorW.PrintLast
set_option linter.unusedVariables false
set_option linter.unusedSimpArgs false

theorem gPowV : Tryd.prog.globalNamed "internal/strconv.uint64pow10" = some 3 := by kernel_rfl
/-- The tables of a rendering. -/
structure TabV (w : World) : Prop where
  u8 : U8In w
  pow : Lib.TabIs Tryd.prog w "internal/strconv.uint64pow10" .u64 Lib.pow10Tab
theorem own_below {W W' : World} {base e sz n : Nat} {v : Value} {xs : List Value} (h : W.ownsRow base e sz v n xs) (hb : Below W.heap.size W W') : W'.ownsRow base e sz v n xs :=
  h.kept (row := none) ⟨hb.os, hb.tape, hb.output, hb.size, fun k hk _ => hb.block k hk⟩ (by
    rcases h.2 with ⟨rfl, _⟩ | ⟨g, cap, cur, rfl, _⟩
    · exact .inl rfl
    · exact .inr (by simp [Value.ownBlock]))

theorem own_lower {W : World} {b b' e sz n : Nat} {v : Value} {xs : List Value} (h : W.ownsRow b e sz v n xs) (hb : b' ≤ b) : W.ownsRow b' e sz v n xs :=
  ⟨h.1, h.2.imp id fun ⟨g, cap, cur, h1, h2, h3⟩ => ⟨g, cap, cur, h1, Nat.le_trans hb h2, h3⟩⟩
/-- A number's digits, as numbers. -/
def itoaI (i : Int) : List Int := (Lib.itoa i).map fun b => (b.toNat : Int)
def backL (d : Int) : List Int := if 0 < d then [27, 91] ++ itoaI d ++ [68] else []
def renderL (s : ByteArray) (mode count at_ : Int) : List Int :=
  [13] ++ bytesOf s ++ List.replicate (starsI mode count).toNat 42 ++ [27, 91, 75] ++ backL (starsI mode count - placeI mode count at_)
def RenderOk (s : ByteArray) (mode room count at_ : Int) (w : World) (xs : List Int) (r : Int) : Prop :=
  Calls Tryd.prog 30 #[.agg #[.string s, .int .i64 mode, .int .i64 room], .int .i64 count, .int .i64 at_] w fun e w' => ∃ v, e = .returned (.tuple #[v, .int .i64 r]) ∧ w'.ownsRow w.heap.size 5 1 v xs.length (nums .u8 xs) ∧ Below w.heap.size w w'

set_option maxHeartbeats 1000000 in
set_option maxRecDepth 100000 in
theorem render_err (s : ByteArray) (mode room count at_ : Int) (hs : s.size ≤ 9223372036854775807) (w : World) (HU : U8In w) (h : checkI s mode room ≠ 0) : RenderOk s mode room count at_ w [] (checkI s mode room) := by
  unfold RenderOk
  have z0 : Below w.heap.size w (w.alloc (.cells #[.string s, .int .i64 mode, .int .i64 room] 53)) := (Below.refl w.heap.size w).alloc (Nat.le_refl _) _
  have hne : (checkI s mode room != 0) = true := by simpa using h
  go_enter Tryd.func30, Tryd.ntmps30
  go_wp2_with (fail)
  refine (check_ok s mode room hs _ (HU.below z0)).mono ?_
  rintro e w1 ⟨rfl, hb⟩
  go_wp2_with (fail)
  go_ret2
  exact ⟨_, rfl, ⟨rfl, .inl ⟨rfl, rfl⟩⟩, z0.trans (hb.mono z0.size)⟩

set_option maxHeartbeats 1000000 in
set_option maxRecDepth 100000 in
theorem render_out (s : ByteArray) (mode room count at_ : Int) (hs : s.size ≤ 9223372036854775807) (w : World) (HU : U8In w) (h : checkI s mode room = 0) (hr : rightB mode count at_ = false) : RenderOk s mode room count at_ w [] 3 := by
  unfold RenderOk
  have z0 : Below w.heap.size w (w.alloc (.cells #[.string s, .int .i64 mode, .int .i64 room] 53)) := (Below.refl w.heap.size w).alloc (Nat.le_refl _) _
  have hk := check_ok s mode room hs (w.alloc (.cells #[.string s, .int .i64 mode, .int .i64 room] 53)) (HU.below z0)
  have c1 : (w.alloc (.cells #[.string s, .int .i64 mode, .int .i64 room] 53)).cell? ⟨w.heap.size, 1, none⟩ = some (.int .i64 mode) := (blk_cell (heap_alloc_new w _) 1).trans rfl
  rw [h] at hk
  go_enter Tryd.func30, Tryd.ntmps30
  go_wp2_with (fail)
  refine hk.mono ?_
  rintro e w1 ⟨rfl, hb⟩
  have c1' := cell_stays c1 hb
  go_wp2_with (fail)
  refine (right_ok mode count at_ _).mono ?_
  rw [hr]
  rintro e w2 ⟨rfl, hb2⟩
  go_wp2_with (fail)
  go_ret2
  exact ⟨_, rfl, ⟨rfl, .inl ⟨rfl, rfl⟩⟩, (z0.trans (hb.mono z0.size)).trans (hb2.mono (Nat.le_trans z0.size hb.size))⟩

theorem rep_any (A : Option Addr) (c : Nat) (n : Nat) (hn : n ≤ 1024) (w : World) (hC : Kd.C (Kd.int .u8) w A 1 [42]) (hc : 1 ≤ c) : RepOk A c n w := by
  rcases Nat.eq_zero_or_pos n with rfl | h
  · exact rep_0 A c w
  · exact rep_n A c n h hn w hC hc
theorem readsInt_of_C {w : World} {A : Option Addr} {n : Nat} {l : List Int} (h : Kd.C (Kd.int .u8) w A n l) : ReadsInt w .u8 A n l := Kd.reads_of_C (d := (0 : Int)) h
theorem C_lit1 (W : World) (x : Int) : Kd.C (Kd.int .u8) (W.alloc (.cells #[.int .u8 x] 5)) (some ⟨W.heap.size, 0, none⟩) 1 [x] := by
  refine Kd.C_of_reads (d := (0 : Int)) ⟨rfl, by decide, fun _ => ⟨_, rfl, fun j hj => ?_⟩⟩
  obtain rfl : j = 0 := by omega
  rw [Addr.add_zero']
  exact (blk_cell (heap_alloc_new W _) 0).trans rfl

set_option maxHeartbeats 4000000 in
set_option maxRecDepth 100000 in
theorem render_main (s : ByteArray) (mode room count at_ : Int) (n p d : Nat) (hst : starsI mode count = n) (hpl : placeI mode count at_ = p) (hd : Aside0 (n = p + d)) (hn : n ≤ 1024) (hs : s.size ≤ 256) (w : World) (HT : TabV w) (h : checkI s mode room = 0) (hr : rightB mode count at_ = true) :
    RenderOk s mode room count at_ w ([13] ++ bytesOf s ++ List.replicate n 42 ++ [27, 91, 75] ++ backL (d : Int)) 0 := by
  unfold RenderOk
  have z0 : Below w.heap.size w (w.alloc (.cells #[.string s, .int .i64 mode, .int .i64 room] 53)) := (Below.refl w.heap.size w).alloc (Nat.le_refl _) _
  have hk := check_ok s mode room (by omega) (w.alloc (.cells #[.string s, .int .i64 mode, .int .i64 room] 53)) (HT.u8.below z0)
  have c0 : (w.alloc (.cells #[.string s, .int .i64 mode, .int .i64 room] 53)).cell? ⟨w.heap.size, 0, none⟩ = some (.string s) := (blk_cell (heap_alloc_new w _) 0).trans rfl
  have c1 : (w.alloc (.cells #[.string s, .int .i64 mode, .int .i64 room] 53)).cell? ⟨w.heap.size, 1, none⟩ = some (.int .i64 mode) := (blk_cell (heap_alloc_new w _) 1).trans rfl
  rw [h] at hk
  go_enter Tryd.func30, Tryd.ntmps30
  go_wp2_with (fail)
  refine hk.mono ?_
  rintro e w1 ⟨rfl, hb⟩
  have c1' := cell_stays c1 hb
  generalize hW0 : w.alloc (.cells #[.string s, .int .i64 mode, .int .i64 room] 53) = W0 at *
  clear hk
  go_wp2_with (fail)
  refine (right_ok mode count at_ _).mono ?_
  rw [hr]
  rintro e w2 ⟨rfl, hb2⟩
  have q2 : Below W0.heap.size W0 w2 := hb.trans (hb2.mono hb.size)
  have c1'' := cell_stays c1 q2
  go_wp2_with (fail)
  refine (stars_ok mode count _).mono ?_
  rw [hst]
  rintro e w3 ⟨rfl, hb3⟩
  have q3 : Below W0.heap.size W0 w3 := q2.trans (hb3.mono q2.size)
  have c3 := cell_stays c0 (below_alloc q3 (.cells #[.int .u8 13] 5))
  clear c1' c1'' hb2 hb
  have o3 := own_lit w3 W0.heap.size 5 .u8 [13] q3.size (by decide)
  go_wp2_with (at_builtin; refine print_append_str (w0 := W0) W0.heap.size rfl _ _ 22 9 5 rfl Tryd.underlying22 Tryd.underlying9 PNext.info5 _ [13] s rfl rfl o3 (below_alloc q3 _) (Nat.le_trans q3.size (by simp)) (by simp; omega) ?_; intro v4 w4 o4 q4 g4)
  refine (rep_any _ 1 n hn _ (C_lit1 w4 42) (Nat.le_refl _)).mono ?_
  rintro e w5 ⟨A', c', rfl, hc', hC5, hb5⟩
  have q5 : Below W0.heap.size W0 w5 := (below_alloc q4 (.cells #[.int .u8 42] 5)).trans (hb5.mono (Nat.le_trans q4.size (by simp)))
  have o5 := own_below (own_below o4 (below_alloc (Below.refl w4.heap.size w4) (.cells #[.int .u8 42] 5))) hb5
  clear g4 o4 q4 hb5 o3 c3 q3 q2 hb3
  go_wp2_with (first | (at_builtin; refine print_append_row (w0 := W0) W0.heap.size rfl _ _ 22 5 .u8 1 rfl Tryd.underlying22 PNext.info5 (by decide) _ ([13] ++ bytesOf s) (List.replicate n 42) A' n c' rfl rfl o5 (readsInt_of_C hC5) q5 q5.size (by simp [bytesOf_length]; omega) ?_; intro v6 w6 o6 q6 g6 _) | (at_builtin; refine print_append_str (w0 := W0) W0.heap.size rfl _ _ 22 9 5 rfl Tryd.underlying22 Tryd.underlying9 PNext.info5 _ ([13] ++ bytesOf s ++ List.replicate n 42) ⟨#[27, 91, 75]⟩ rfl rfl o6 q6 q6.size (by simp [bytesOf_length]; show s.size + n + 1 + 3 ≤ _; omega) ?_; intro v7 w7 o7 q7 g7; have c7 := cell_stays c1 q7))
  refine (viewPlace_ok mode count at_ _).mono ?_
  rw [hpl]
  rintro e w8 ⟨rfl, hb8⟩
  have q8 : Below W0.heap.size W0 w8 := q7.trans (hb8.mono q7.size)
  have o8 := own_below o7 hb8
  have hsub : IntKind.i64.wrap ((n : Int) - (p : Int)) = d := by have := hd.out; unfold IntKind.wrap; simp [IntKind.bits]; omega
  clear hb8 g7 o7 q7 q6 o6 g6 q5 o5 hC5 hc' c7
  have hW : w.heap.size ≤ W0.heap.size := z0.size
  have hpow := Joins.tab_stays gPowV HT.pow z0 (Nat.le_refl _)
  have htab : ∀ W, Below W0.heap.size W0 W → Lib.TabBelow Tryd.prog W0.heap.size W "internal/strconv.uint64pow10" .u64 Lib.pow10Tab := fun W hW' W' hb' => Joins.tab_stays gPowV HT.pow ((z0.trans (hW'.mono z0.size)).trans (hb'.mono z0.size)) (Nat.le_refl _)
  have zz := Aside0.mk z0
  clear z0 hpow HT c0 c1
  by_cases h0 : d = 0
  · subst h0
    go_wp2_with (fail)
    go_ret2
    refine ⟨_, rfl, ?_, zz.out.trans (q8.mono hW)⟩
    have e : backL ((0 : Nat) : Int) = [] := rfl
    rw [e, List.append_nil]
    exact own_lower o8 hW
  · have hpos : (0 : Int) < (d : Int) := by omega
    have hdn : d ≤ 1024 := by have := hd.out; omega
    have hlen := Lib.itoa_length_le (d : Int) (by omega) (by omega)
    have o8' : w8.ownsRow W0.heap.size 5 1 v7 ([13] ++ bytesOf s ++ List.replicate n 42 ++ [27, 91, 75]).length (nums .u8 ([13] ++ bytesOf s ++ List.replicate n 42 ++ [27, 91, 75])) := o8
    go_wp2_with (at_builtin; refine print_append_str (w0 := W0) W0.heap.size rfl _ _ 22 9 5 rfl Tryd.underlying22 Tryd.underlying9 PNext.info5 _ ([13] ++ bytesOf s ++ List.replicate n 42 ++ [27, 91, 75]) ⟨#[27, 91]⟩ rfl rfl o8' q8 q8.size (by simp [bytesOf_length]; show s.size + (n + 3) + 1 + 2 ≤ _; omega) ?_; intro v9 w9 o9 q9 g9)
    have e2 : (bytesOf ⟨#[27, 91]⟩).length = 2 := rfl
    have eb : bytesOf ⟨#[27, 91]⟩ = [27, 91] := rfl
    have hX : ([13] ++ bytesOf s ++ List.replicate n 42 ++ [27, 91, 75] ++ bytesOf ⟨#[27, 91]⟩).length = s.size + n + 6 := by
      rw [List.length_append, e2]
      simp [bytesOf_length]
      omega
    refine (Tryd.strconv_AppendInt_10 W0.heap.size _ (d : Int) (by omega) (by omega) v9 _ w9 o9 q9.size (by rw [hX]; omega) (htab w9 q9)).mono ?_
    rintro e w10 ⟨v10, rfl, o10, hb10, _⟩
    have q10 := q9.trans hb10
    have hI : (itoaI (d : Int)).length = (Lib.itoa (d : Int)).length := by unfold itoaI; rw [List.length_map]
    have o11 : w10.ownsRow W0.heap.size 5 1 v10 ([13] ++ bytesOf s ++ List.replicate n 42 ++ [27, 91, 75] ++ bytesOf ⟨#[27, 91]⟩ ++ itoaI (d : Int)).length (nums .u8 ([13] ++ bytesOf s ++ List.replicate n 42 ++ [27, 91, 75] ++ bytesOf ⟨#[27, 91]⟩ ++ itoaI (d : Int))) := by
      rw [List.length_append, hI, nums_append]
      have : nums .u8 (itoaI (d : Int)) = Lib.byteCells (Lib.itoa (d : Int)) := by
        unfold nums itoaI Lib.byteCells
        rw [List.map_map]
        rfl
      rw [this]
      exact o10
    have o11' := Aside0.mk (own_below o11 (below_alloc (Below.refl w10.heap.size w10) (.cells #[.int .u8 68] 5)))
    have hl := Aside0.mk (show (([13] ++ bytesOf s ++ List.replicate n 42 ++ [27, 91, 75] ++ bytesOf ⟨#[27, 91]⟩ ++ itoaI (d : Int)).length + 1) * 1 ≤ 140737488355328 by rw [List.length_append, hX, hI]; omega)
    have qq := Aside0.mk (below_alloc q10 (.cells #[.int .u8 68] 5))
    have qs := Aside0.mk (Nat.le_trans q10.size (show w10.heap.size ≤ (w10.alloc (.cells #[.int .u8 68] 5)).heap.size by simp))
    clear o10 hb10 o9 q9 g9 o8 o8' q8 hX e2 hI htab o11 q10
    go_wp2_with (at_builtin; refine print_append_row (w0 := W0) W0.heap.size rfl _ _ 22 5 .u8 1 rfl Tryd.underlying22 PNext.info5 (by decide) _ ([13] ++ bytesOf s ++ List.replicate n 42 ++ [27, 91, 75] ++ bytesOf ⟨#[27, 91]⟩ ++ itoaI (d : Int)) [68] (some ⟨w10.heap.size, 0, none⟩) 1 1 rfl rfl o11'.out (readsInt_of_C (C_lit1 w10 68)) qq.out qs.out hl.out ?_; intro v12 w12 o12 q12 g12 _)
    go_ret2
    refine ⟨_, rfl, ?_, zz.out.trans (q12.mono hW)⟩
    have e : backL (d : Int) = [27, 91] ++ itoaI (d : Int) ++ [68] := if_pos hpos
    rw [e]
    have o12' := own_lower o12 hW
    rw [eb] at o12'
    have o13 : w12.ownsRow w.heap.size 5 1 v12 ([13] ++ bytesOf s ++ List.replicate n 42 ++ [27, 91, 75] ++ ([27, 91] ++ itoaI (d : Int) ++ [68])).length (nums .u8 ([13] ++ bytesOf s ++ List.replicate n 42 ++ [27, 91, 75] ++ ([27, 91] ++ itoaI (d : Int) ++ [68]))) := by simpa only [List.append_assoc] using o12'
    exact o13

def view_Render.f (k : Nat) (a0_0 : ByteArray) (a0_1 a0_2 a1 a2 : Int) : Option (List Int × Int) :=
  if a0_0.size ≤ 9223372036854775807 then some (if checkI a0_0 a0_1 a0_2 ≠ 0 then ([], checkI a0_0 a0_1 a0_2) else if rightB a0_1 a1 a2 = true then (renderL a0_0 a0_1 a1 a2, 0) else ([], 3)) else none
theorem view_Render.mono : ∀ a0 a1 a2 a3 a4 k, LeO (view_Render.f k a0 a1 a2 a3 a4) (view_Render.f (k + 1) a0 a1 a2 a3 a4) := fun _ _ _ _ _ _ => LeO.refl _
theorem check_size {s : ByteArray} {mode room : Int} (h : checkI s mode room = 0) : s.size ≤ 256 := by
  unfold checkI at h
  split at h
  · split at h
    · omega
    · omega
  · omega
theorem view_Render.calls (k : Nat) (a0_0 : ByteArray) (a0_1 a0_2 a1 a2 : Int) (r1 : List Int) (r2 : Int) (w : World) (HT : TabV w) (h : view_Render.f k a0_0 a0_1 a0_2 a1 a2 = some (r1, r2)) :
    Calls Tryd.prog 30 #[.agg #[.string a0_0, .int .i64 a0_1, .int .i64 a0_2], .int .i64 a1, .int .i64 a2] w fun e w' => ∃ v0_ : Value, e = .returned (.tuple #[v0_, .int .i64 r2]) ∧ Kd.R (Kd.int .u8) 5 w' w.heap.size (fun _ => True) v0_ r1 ∧ Below w.heap.size w w' := by
  have fin : RenderOk a0_0 a0_1 a0_2 a1 a2 w r1 r2 := by
    unfold view_Render.f at h
    by_cases hs : a0_0.size ≤ 9223372036854775807
    · rw [if_pos hs] at h
      have h := Option.some.inj h
      by_cases hc : checkI a0_0 a0_1 a0_2 = 0
      · rw [if_neg (fun x => x hc)] at h
        by_cases hr : rightB a0_1 a1 a2 = true
        · rw [if_pos hr] at h
          obtain ⟨rfl, rfl⟩ := Prod.mk.inj h
          have hm := rightB_count hr
          have hr0 : rightB a0_1 a1 0 = true := by
            unfold rightB
            simp
            omega
          have hst : 0 ≤ starsI a0_1 a1 ∧ starsI a0_1 a1 ≤ 1024 ∧ 0 ≤ placeI a0_1 a1 a2 ∧ placeI a0_1 a1 a2 ≤ starsI a0_1 a1 := by
            unfold starsI placeI
            rw [if_pos hr, if_pos hr0]
            repeat' split
            all_goals omega
          have := render_main a0_0 a0_1 a0_2 a1 a2 (starsI a0_1 a1).toNat (placeI a0_1 a1 a2).toNat (starsI a0_1 a1 - placeI a0_1 a1 a2).toNat (by omega) (by omega) ⟨by omega⟩ (by omega) (check_size hc) w HT hc hr
          rw [show (((starsI a0_1 a1 - placeI a0_1 a1 a2).toNat : Nat) : Int) = starsI a0_1 a1 - placeI a0_1 a1 a2 by omega] at this
          exact this
        · rw [if_neg hr] at h
          obtain ⟨rfl, rfl⟩ := Prod.mk.inj h
          exact render_out a0_0 a0_1 a0_2 a1 a2 hs w HT.u8 hc (by simpa using hr)
      · rw [if_pos hc] at h
        obtain ⟨rfl, rfl⟩ := Prod.mk.inj h
        exact render_err a0_0 a0_1 a0_2 a1 a2 hs w HT.u8 hc
    · rw [if_neg hs] at h
      cases h
  refine fin.mono ?_
  rintro e w' ⟨v, rfl, ho, hb⟩
  exact ⟨v, rfl, Kd.R_of_own ho (fun _ _ => trivial), hb⟩

end Go.Proofs.YtmdeehblmkpddaaDoor.Hand
