/- The contract of keys.Text, over keys.check as printed and strconv.Itoa off the shelf. -/
import Derived.Test.YtanlgkmijegefaaDoorHandKeyBytes
import Derived.Test.YtanlgkmijegefaaDoorHandShelf
import Derived.Deep.RegionHeld3
import Derived.Lib.AppendIntMem
import Derived.Lib.SmallJoins
import Derived.Lib.ItoaLen
namespace Go.Proofs.YtanlgkmijegefaaDoor.Hand
open Go.RowKit Go.Maps Go.WideShapes Go.WideMaps Go.ChangeMaps Go.Proofs.YtanlgkmijegefaaDoorW.PrintWords Go.Proofs.YtanlgkmijegefaaDoorW.PrintLast Go.Proofs.YtanlgkmijegefaaDoor.Pcheck
set_option linter.unusedVariables false
set_option linter.unusedSimpArgs false

/-- The kinds' names. -/
def nameL : List (List UInt8) := [[114, 117, 110, 101], [101, 110, 116, 101, 114], [98, 97, 99, 107], [100, 101, 108, 101, 116, 101], [108, 101, 102, 116], [114, 105, 103, 104, 116], [104, 111, 109, 101], [108, 97, 115, 116], [107, 105, 108, 108, 115, 116, 97, 114, 116], [107, 105, 108, 108, 101, 110, 100], [114, 101, 100, 114, 97, 119], [99, 97, 110, 99, 101, 108], [101, 111, 102], [112, 97, 115, 116, 101, 115, 116, 97, 114, 116], [112, 97, 115, 116, 101, 101, 110, 100], [105, 103, 110, 111, 114, 101, 100]]
def nameB (j : Nat) : ByteArray := ⟨(nameL.getD j []).toArray⟩
/-- The world holds the names. -/
def NamesIn (w : World) : Prop := ∀ j, j < 16 → w.cell? ⟨0, j, none⟩ = some (.string (nameB j))
theorem NamesIn.below {w w' : World} {B : Nat} (h : NamesIn w) (hb : Below B w w') (hB : 0 < B) : NamesIn w' := fun j hj => (hb.cell (p := ⟨0, j, none⟩) hB).trans (h j hj)

def TextOk (a c : Int) (w : World) (r1 : ByteArray) (r2 : Int) : Prop := Calls Tryd.prog 9 #[.agg #[.int .i64 a, .int .i64 c]] w fun e w' => e = .returned (.tuple #[.string r1, .int .i64 r2]) ∧ Below w.heap.size w w'

set_option maxHeartbeats 1000000 in
set_option maxRecDepth 100000 in
theorem text_err (a c e0 : Int) (he : (e0 != 0) = true) (hc : ChkOk a c e0) (w : World) : TextOk a c w ⟨#[]⟩ e0 := by
  unfold TextOk
  go_enter Tryd.func9, Tryd.ntmps9
  go_wp2_with (fail)
  refine (hc _).mono ?_
  rintro e w1 ⟨rfl, b1⟩
  have z1 := Aside0.mk (show Below w.heap.size w w1 from ((Below.refl w.heap.size w).alloc (Nat.le_refl _) _).trans (b1.mono (by simp)))
  clear b1
  go_wp2_with (fail)
  go_ret2
  exact ⟨rfl, z1.out⟩

set_option maxHeartbeats 1000000 in
set_option maxRecDepth 100000 in
theorem text_other (j : Nat) (c : Int) (h1 : 1 ≤ j) (h2 : j < 16) (hc : ChkOk j c 0) (w : World) (hN : NamesIn w) (h0 : 0 < w.heap.size) : TextOk j c w (nameB j) 0 := by
  unfold TextOk
  have hj0 : ((j : Int) == 0) = false := by simp; omega
  go_enter Tryd.func9, Tryd.ntmps9
  go_wp2_with (fail)
  refine (hc _).mono ?_
  rintro e w1 ⟨rfl, b1⟩
  have hblk := box_after _ b1
  have z1 := Aside0.mk (show Below w.heap.size w w1 from ((Below.refl w.heap.size w).alloc (Nat.le_refl _) _).trans (b1.mono (by simp)))
  clear b1
  have hcz := (blk_cell hblk 0).trans rfl
  have hfz := blk_frozen hblk 0
  have hn := (hN.below z1.out h0) j h2
  go_wp2_with (fail)
  go_ret2
  exact ⟨rfl, z1.out⟩

/-- strconv.Itoa, its world by Below. -/
theorem itoa_ok (c : Int) (h0 : -9223372036854775808 ≤ c) (h1 : c ≤ 9223372036854775807) (w : World) (ht : Lib.TabIs Tryd.prog w "internal/strconv.uint64pow10" .u64 Lib.pow10Tab) :
    Calls Tryd.prog 23 #[.int .i64 c] w fun e w' => e = .returned (.string ⟨(Lib.itoa c).toArray⟩) ∧ Below w.heap.size w w' := by
  refine (Tryd.strconv_Itoa c h0 h1 w ht).mono ?_
  rintro e w' ⟨rfl, k, os, rfl⟩
  exact ⟨rfl, Go.Lib.below_grow _ w (Nat.le_refl _) k os⟩

theorem keepC {W W' : World} {p : Addr} {v : Value} (h : W.cell? p = some v) (hb : Below W.heap.size W W') : W'.cell? p = some v := (hb.cell (World.block_lt_of_cell? W _ h)).trans h
theorem keepB {w W W' : World} (h : Below w.heap.size w W) (hb : Below W.heap.size W W') : Below w.heap.size w W' := h.trans (hb.mono h.size)

set_option maxHeartbeats 1000000 in
set_option maxRecDepth 100000 in
theorem text_rune (N0 I0 : ByteArray) (h4 : N0.size = 4) (hI : I0.size ≤ 100) (c : Int) (hc : ChkOk 0 c 0) (w : World) (hN : w.cell? ⟨0, 0, none⟩ = some (.string N0)) (hi : ∀ w', Below w.heap.size w w' → Calls Tryd.prog 23 #[.int .i64 c] w' fun e w'' => e = .returned (.string I0) ∧ Below w'.heap.size w' w'') :
    TextOk 0 c w (N0 ++ ⟨#[32]⟩ ++ I0) 0 := by
  unfold TextOk
  go_enter Tryd.func9, Tryd.ntmps9
  go_wp2_with (fail)
  refine (hc _).mono ?_
  rintro e w1 ⟨rfl, b1⟩
  have hblk := box_after _ b1
  have z1 := Aside0.mk (show Below w.heap.size w w1 from ((Below.refl w.heap.size w).alloc (Nat.le_refl _) _).trans (b1.mono (by simp)))
  clear b1
  have hcz := (blk_cell hblk 0).trans rfl
  have hfz := blk_frozen hblk 0
  have hcz1 := (blk_cell hblk 1).trans rfl
  have hn := (z1.out.cell (World.block_lt_of_cell? w _ hN)).trans hN
  have k1 : N0.size + 1 ≤ 9223372036854775807 := by omega
  have k2 : N0.size + 1 + I0.size ≤ 9223372036854775807 := by omega
  have k3 : 5 + I0.size ≤ 9223372036854775807 := by omega
  have k4 : (9223372036854775807 < 5 + I0.size) = False := eq_false (by omega)
  have k5 : (9223372036854775807 < N0.size + 1 + I0.size) = False := eq_false (by omega)
  go_wp2_with (fail)
  have hz1 := below_drew1 z1.out
  have hd1 : w1.drew.cell? ⟨w.heap.size, 1, none⟩ = some (.int .i64 c) := hcz1
  have hd2 : w1.drew.cell? ⟨0, 0, none⟩ = some (.string N0) := hn
  go_region_held3 (fun w' => w'.cell? ⟨w.heap.size, 1, none⟩ = some (.int .i64 c) ∧ w'.cell? ⟨0, 0, none⟩ = some (.string N0) ∧ Below w.heap.size w w') (refine ⟨?_, ?_, ?_⟩ <;> first | assumption | exact hcz1 | exact hn | exact hz1 | exact keepC (by assumption) (by assumption) | exact keepB (by assumption) (by assumption))
    (first | (go_at_call 23; refine (hi _ (by assumption)).mono ?_; rintro e w' ⟨rfl, hb⟩))
  go_wp2_with (fail)
  go_ret2
  exact ⟨rfl, keepB hz1 hb⟩

end Go.Proofs.YtanlgkmijegefaaDoor.Hand

namespace Go.Proofs.YtanlgkmijegefaaDoor.Hand
open Go.RowKit Go.Maps Go.WideShapes Go.WideMaps Go.ChangeMaps Go.Proofs.YtanlgkmijegefaaDoorW.PrintWords Go.Proofs.YtanlgkmijegefaaDoorW.PrintLast Go.Proofs.YtanlgkmijegefaaDoor.Pcheck
set_option linter.unusedVariables false
set_option linter.unusedSimpArgs false

theorem gPow : Tryd.prog.globalNamed "internal/strconv.uint64pow10" = some 6 := by kernel_rfl

/-- What is in one cell of a package-level variable is nil or some interface value. -/
def ErrIn (w : World) (g : Nat) : Prop := ∃ ev, w.cell? ⟨g, 0, none⟩ = some ev ∧ (ev = .nilIface ∨ ∃ te pe, ev = .iface te pe)
theorem ErrIn.below {w W : World} {g : Nat} (h : ErrIn w g) (hb : Below w.heap.size w W) : ErrIn W g := by
  obtain ⟨ev, h1, h2⟩ := h
  exact ⟨ev, keepC h1 hb, h2⟩
/-- The world holds the tables that the rows list, and what its shape tells of the rest. -/
structure Tab (w : World) : Prop where
  nm : NamesIn w
  mx : ∃ m, w.cell? ⟨3, 0, none⟩ = some (.int .i64 m)
  pow : Lib.TabIs Tryd.prog w "internal/strconv.uint64pow10" .u64 Lib.pow10Tab
  es : ErrIn w 4
  er : ErrIn w 5
theorem Tab.pos {w : World} (h : Tab w) : 0 < w.heap.size := World.block_lt_of_cell? w _ (h.nm 0 (by decide))
theorem Tab.below {w W : World} (h : Tab w) (hb : Below w.heap.size w W) : Tab W :=
  ⟨h.nm.below hb h.pos, by obtain ⟨m, hm⟩ := h.mx; exact ⟨m, keepC hm hb⟩, Joins.tab_stays gPow h.pow hb (Nat.le_refl _), h.es.below hb, h.er.below hb⟩

theorem wf_i64 {n : Int} (h : (Lit.int .i64 n).wf = true) : -9223372036854775808 ≤ n ∧ n ≤ 9223372036854775807 := by
  have h1 : (decide (IntKind.i64.min ≤ n) && decide (n ≤ IntKind.i64.max)) = true := h
  have e1 : IntKind.i64.min = -9223372036854775808 := by decide
  have e2 : IntKind.i64.max = 9223372036854775807 := by decide
  rw [e1, e2] at h1
  simpa using h1
def keys_Text.f (k : Nat) (a0_0 : Int) (a0_1 : Int) : Option (ByteArray × Int) :=
  if (Lit.int .i64 a0_1).wf = true then (keys_check.f k a0_0 a0_1).bind fun e => if e = 0 then (if a0_0 = 0 then some (nameB 0 ++ ⟨#[32]⟩ ++ ⟨(Lib.itoa a0_1).toArray⟩, 0) else if 1 ≤ a0_0 ∧ a0_0 < 16 then some (nameB a0_0.toNat, 0) else none) else some (⟨#[]⟩, e) else none
theorem keys_Text.mono : ∀ a0 a1 k, LeO (keys_Text.f k a0 a1) (keys_Text.f (k + 1) a0 a1) := by
  intro a0 a1 k
  unfold keys_Text.f
  split
  · exact LeO.bind (keys_check.mono _ _ _) (fun _ => LeO.refl _)
  · exact LeO.refl _
theorem itoa_size (c : Int) (h0 : -9223372036854775808 ≤ c) (h1 : c ≤ 9223372036854775807) : (⟨(Lib.itoa c).toArray⟩ : ByteArray).size ≤ 100 := by
  have := Lib.itoa_length_le c h0 h1
  show (Lib.itoa c).toArray.size ≤ 100
  simp
  omega
theorem keys_Text.calls (k : Nat) (a0_0 : Int) (a0_1 : Int) (r1 : ByteArray) (r2 : Int) (w : World) (HT : Tab w) (h : keys_Text.f k a0_0 a0_1 = some (r1, r2)) :
    Calls Tryd.prog 9 #[.agg #[.int .i64 a0_0, .int .i64 a0_1]] w fun e w' => e = .returned (.tuple #[.string r1, .int .i64 r2]) ∧ Below w.heap.size w w' := by
  show TextOk a0_0 a0_1 w r1 r2
  unfold keys_Text.f at h
  by_cases hwf : (Lit.int .i64 a0_1).wf = true
  · rw [if_pos hwf] at h
    obtain ⟨e0, hc0, h⟩ := Option.bind_eq_some_iff.mp h
    have hc : ChkOk a0_0 a0_1 e0 := fun w => keys_check.calls k a0_0 a0_1 e0 w hc0
    by_cases he : e0 = 0
    · subst he
      rw [if_pos rfl] at h
      by_cases h0 : a0_0 = 0
      · subst h0
        rw [if_pos rfl] at h
        obtain ⟨rfl, rfl⟩ := Prod.mk.inj (Option.some.inj h)
        have hb : -9223372036854775808 ≤ a0_1 ∧ a0_1 ≤ 9223372036854775807 := by
          exact wf_i64 hwf
        exact text_rune (nameB 0) ⟨(Lib.itoa a0_1).toArray⟩ (by decide) (itoa_size _ hb.1 hb.2) a0_1 hc w (HT.nm 0 (by decide)) (fun w' hb' => itoa_ok a0_1 hb.1 hb.2 w' (HT.below hb').pow)
      · rw [if_neg h0] at h
        by_cases h1 : 1 ≤ a0_0 ∧ a0_0 < 16
        · rw [if_pos h1] at h
          obtain ⟨rfl, rfl⟩ := Prod.mk.inj (Option.some.inj h)
          have hj : a0_0 = ((a0_0.toNat : Nat) : Int) := by omega
          have := text_other a0_0.toNat a0_1 (by omega) (by omega) (by rw [← hj]; exact hc) w HT.nm HT.pos
          rw [← hj] at this
          exact this
        · rw [if_neg h1] at h
          cases h
    · rw [if_neg he] at h
      obtain ⟨rfl, rfl⟩ := Prod.mk.inj (Option.some.inj h)
      exact text_err a0_0 a0_1 e0 (by simpa using he) hc w
  · rw [if_neg hwf] at h
    cases h

end Go.Proofs.YtanlgkmijegefaaDoor.Hand
