/- utf8.FullRune at every slice of bytes. -/
import Derived.Test.YtmdeehblmkpddaaDoorHandShelfU
import Derived.Test.YtmdeehblmkpddaaDoorWMore
import Derived.Laws.BitsAllLaws
import Derived.BigQuiet
import Derived.Deep.QuietTactic
import Derived.Deep.RegionHeld3
namespace Go.Proofs.YtmdeehblmkpddaaDoor.Hand
open Go.RowKit Go.Proofs.YtmdeehblmkpddaaDoorW.PrintWords Go.Proofs.YtmdeehblmkpddaaDoorW.PrintLast
set_option linter.unusedVariables false
set_option linter.unusedSimpArgs false

def FullOk (n b off cap : Nat) (w : World) (r : Bool) : Prop := Calls Tryd.prog 84 #[.slice (some ⟨b, off, none⟩) n cap] w fun e w' => e = .returned (.bool r) ∧ Below w.heap.size w w'

set_option maxHeartbeats 1000000 in
set_option maxRecDepth 100000 in
theorem full_true (n b off cap b0 x sz : Nat) (w : World) (hn : 0 < n) (hm : (n : Int) ≤ 9223372036854775807) (hb : b0 < 256) (h0 : w.cell? ⟨b, off, none⟩ = some (.int .u8 b0)) (hx : w.cell? ⟨1, b0, none⟩ = some (.int .u8 x))
    (hand : bits .and .u8 (x : Int) 7 = (sz : Int)) (hsz : sz ≤ n) (h8 : sz < 8) : FullOk n b off cap w true := by
  unfold FullOk
  have hz : ((n : Int) == 0) = false := by simp; omega
  have hlt : (0 : Int) < (n : Int) := by omega
  have hi0 : (0 : Int) ≤ (b0 : Int) := by omega
  have hi1 : (b0 : Int) < 256 := by omega
  have hge : (sz : Int) ≤ (n : Int) := by omega
  clear hn hb hsz
  go_enter Tryd.func84, Tryd.ntmps84
  go_wp2_with (fail)
  go_ret
  exact ⟨rfl, Below.refl _ _⟩

set_option maxHeartbeats 2000000 in
set_option maxRecDepth 100000 in
theorem full_1 (b off cap b0 x sz a lo hi : Nat) (w : World) (hb : b0 < 256) (h0 : w.cell? ⟨b, off, none⟩ = some (.int .u8 b0)) (hx : w.cell? ⟨1, b0, none⟩ = some (.int .u8 x))
    (hand : bits .and .u8 (x : Int) 7 = (sz : Int)) (hsz : 1 < sz) (h8 : sz < 8) (ha : (x : Int) / 16 = (a : Int)) (ha16 : a < 16)
    (hlo : w.cell? ⟨2, a * 2, none⟩ = some (.int .u8 lo)) (hhi : w.cell? ⟨2, a * 2 + 1, none⟩ = some (.int .u8 hi)) : FullOk 1 b off cap w false := by
  unfold FullOk
  have hi0 : (0 : Int) ≤ (b0 : Int) := by omega
  have hi1 : (b0 : Int) < 256 := by omega
  have ha0 : (0 : Int) ≤ (a : Int) := by omega
  have ha1 : (a : Int) < 16 := by omega
  have hd1 : decide ((sz : Int) ≤ 1) = false := by simp; omega
  have hd2 : decide (sz ≤ 1) = false := by simp; omega
  clear hb hsz
  go_enter Tryd.func84, Tryd.ntmps84
  go_wp2_with (fail)
  go_quiet (fail)
  go_wp2_with (fail)
  go_ret
  exact ⟨rfl, by repeat (first | exact Below.refl _ _ | apply pw_below_drewN | apply below_drew1 | refine Below.alloc ?_ (by simp) _)⟩

set_option maxHeartbeats 2000000 in
set_option maxRecDepth 100000 in
theorem full_2lo (b off cap b0 x sz a lo hi b1 : Nat) (w : World) (hb : b0 < 256) (h0 : w.cell? ⟨b, off, none⟩ = some (.int .u8 b0)) (hx : w.cell? ⟨1, b0, none⟩ = some (.int .u8 x))
    (hand : bits .and .u8 (x : Int) 7 = (sz : Int)) (hsz : 2 < sz) (h8 : sz < 8) (ha : (x : Int) / 16 = (a : Int)) (ha16 : a < 16)
    (hlo : w.cell? ⟨2, a * 2, none⟩ = some (.int .u8 lo)) (hhi : w.cell? ⟨2, a * 2 + 1, none⟩ = some (.int .u8 hi)) (h1 : w.cell? ⟨b, off + 1, none⟩ = some (.int .u8 b1)) (hl : b1 < lo) : FullOk 2 b off cap w true := by
  unfold FullOk
  have hi0 : (0 : Int) ≤ (b0 : Int) := by omega
  have hi1 : (b0 : Int) < 256 := by omega
  have ha0 : (0 : Int) ≤ (a : Int) := by omega
  have ha1 : (a : Int) < 16 := by omega
  have hd1 : decide ((sz : Int) ≤ 2) = false := by simp; omega
  have hd2 : decide (sz ≤ 2) = false := by simp; omega
  have hl1 : decide (b1 < lo) = true := by simpa using hl
  have hl2 : ((b1 : Int) < (lo : Int)) := by omega
  have ha1_ : ∀ o : Obj, (w.alloc o).cell? ⟨b, off + 1, none⟩ = some (.int .u8 b1) := fun o => (World.cell?_alloc_lt w o _ (World.block_lt_of_cell? w _ h1)).trans h1
  clear hb hsz
  go_enter Tryd.func84, Tryd.ntmps84
  go_wp2_with (fail)
  go_quiet (fail)
  go_wp2_with (fail)
  go_ret
  exact ⟨rfl, by repeat (first | exact Below.refl _ _ | apply pw_below_drewN | apply below_drew1 | refine Below.alloc ?_ (by simp) _)⟩

set_option maxHeartbeats 2000000 in
set_option maxRecDepth 100000 in
theorem full_2hi (b off cap b0 x sz a lo hi b1 : Nat) (w : World) (hb : b0 < 256) (h0 : w.cell? ⟨b, off, none⟩ = some (.int .u8 b0)) (hx : w.cell? ⟨1, b0, none⟩ = some (.int .u8 x))
    (hand : bits .and .u8 (x : Int) 7 = (sz : Int)) (hsz : 2 < sz) (h8 : sz < 8) (ha : (x : Int) / 16 = (a : Int)) (ha16 : a < 16)
    (hlo : w.cell? ⟨2, a * 2, none⟩ = some (.int .u8 lo)) (hhi : w.cell? ⟨2, a * 2 + 1, none⟩ = some (.int .u8 hi)) (h1 : w.cell? ⟨b, off + 1, none⟩ = some (.int .u8 b1)) (hl : ¬ b1 < lo) (hh : hi < b1) : FullOk 2 b off cap w true := by
  unfold FullOk
  have hi0 : (0 : Int) ≤ (b0 : Int) := by omega
  have hi1 : (b0 : Int) < 256 := by omega
  have ha0 : (0 : Int) ≤ (a : Int) := by omega
  have ha1 : (a : Int) < 16 := by omega
  have hd1 : decide ((sz : Int) ≤ 2) = false := by simp; omega
  have hd2 : decide (sz ≤ 2) = false := by simp; omega
  have hl1 : decide (b1 < lo) = false := by simpa using hl
  have hh1 : decide (hi < b1) = true := by simpa using hh
  clear hl
  have ha1_ : ∀ o : Obj, (w.alloc o).cell? ⟨b, off + 1, none⟩ = some (.int .u8 b1) := fun o => (World.cell?_alloc_lt w o _ (World.block_lt_of_cell? w _ h1)).trans h1
  clear hb hsz
  go_enter Tryd.func84, Tryd.ntmps84
  go_wp2_with (fail)
  go_quiet (fail)
  go_wp2_with (fail)
  go_ret
  exact ⟨rfl, by repeat (first | exact Below.refl _ _ | apply pw_below_drewN | apply below_drew1 | refine Below.alloc ?_ (by simp) _)⟩

set_option maxHeartbeats 2000000 in
set_option maxRecDepth 100000 in
theorem full_2ok (b off cap b0 x sz a lo hi b1 : Nat) (w : World) (hb : b0 < 256) (h0 : w.cell? ⟨b, off, none⟩ = some (.int .u8 b0)) (hx : w.cell? ⟨1, b0, none⟩ = some (.int .u8 x))
    (hand : bits .and .u8 (x : Int) 7 = (sz : Int)) (hsz : 2 < sz) (h8 : sz < 8) (ha : (x : Int) / 16 = (a : Int)) (ha16 : a < 16)
    (hlo : w.cell? ⟨2, a * 2, none⟩ = some (.int .u8 lo)) (hhi : w.cell? ⟨2, a * 2 + 1, none⟩ = some (.int .u8 hi)) (h1 : w.cell? ⟨b, off + 1, none⟩ = some (.int .u8 b1)) (hl : ¬ b1 < lo) (hh : ¬ hi < b1) : FullOk 2 b off cap w false := by
  unfold FullOk
  have hi0 : (0 : Int) ≤ (b0 : Int) := by omega
  have hi1 : (b0 : Int) < 256 := by omega
  have ha0 : (0 : Int) ≤ (a : Int) := by omega
  have ha1 : (a : Int) < 16 := by omega
  have hd1 : decide ((sz : Int) ≤ 2) = false := by simp; omega
  have hd2 : decide (sz ≤ 2) = false := by simp; omega
  have hl1 : decide (b1 < lo) = false := by simpa using hl
  have hh1 : decide (hi < b1) = false := by simpa using hh
  clear hl hh
  have ha1_ : ∀ o : Obj, (w.alloc o).cell? ⟨b, off + 1, none⟩ = some (.int .u8 b1) := fun o => (World.cell?_alloc_lt w o _ (World.block_lt_of_cell? w _ h1)).trans h1
  clear hb hsz
  go_enter Tryd.func84, Tryd.ntmps84
  go_wp2_with (fail)
  go_quiet (fail)
  go_wp2_with (fail)
  go_ret
  exact ⟨rfl, by repeat (first | exact Below.refl _ _ | apply pw_below_drewN | apply below_drew1 | refine Below.alloc ?_ (by simp) _)⟩

set_option maxHeartbeats 2000000 in
set_option maxRecDepth 100000 in
theorem full_3lo (b off cap b0 x sz a lo hi b1 : Nat) (w : World) (hb : b0 < 256) (h0 : w.cell? ⟨b, off, none⟩ = some (.int .u8 b0)) (hx : w.cell? ⟨1, b0, none⟩ = some (.int .u8 x))
    (hand : bits .and .u8 (x : Int) 7 = (sz : Int)) (hsz : 3 < sz) (h8 : sz < 8) (ha : (x : Int) / 16 = (a : Int)) (ha16 : a < 16)
    (hlo : w.cell? ⟨2, a * 2, none⟩ = some (.int .u8 lo)) (hhi : w.cell? ⟨2, a * 2 + 1, none⟩ = some (.int .u8 hi)) (h1 : w.cell? ⟨b, off + 1, none⟩ = some (.int .u8 b1)) (hl : b1 < lo) : FullOk 3 b off cap w true := by
  unfold FullOk
  have hi0 : (0 : Int) ≤ (b0 : Int) := by omega
  have hi1 : (b0 : Int) < 256 := by omega
  have ha0 : (0 : Int) ≤ (a : Int) := by omega
  have ha1 : (a : Int) < 16 := by omega
  have hd1 : decide ((sz : Int) ≤ 3) = false := by simp; omega
  have hd2 : decide (sz ≤ 3) = false := by simp; omega
  have hl1 : decide (b1 < lo) = true := by simpa using hl
  have ha1_ : ∀ o : Obj, (w.alloc o).cell? ⟨b, off + 1, none⟩ = some (.int .u8 b1) := fun o => (World.cell?_alloc_lt w o _ (World.block_lt_of_cell? w _ h1)).trans h1
  clear hb hsz
  go_enter Tryd.func84, Tryd.ntmps84
  go_wp2_with (fail)
  go_quiet (fail)
  go_wp2_with (fail)
  go_ret
  exact ⟨rfl, by repeat (first | exact Below.refl _ _ | apply pw_below_drewN | apply below_drew1 | refine Below.alloc ?_ (by simp) _)⟩

set_option maxHeartbeats 2000000 in
set_option maxRecDepth 100000 in
theorem full_3hi (b off cap b0 x sz a lo hi b1 : Nat) (w : World) (hb : b0 < 256) (h0 : w.cell? ⟨b, off, none⟩ = some (.int .u8 b0)) (hx : w.cell? ⟨1, b0, none⟩ = some (.int .u8 x))
    (hand : bits .and .u8 (x : Int) 7 = (sz : Int)) (hsz : 3 < sz) (h8 : sz < 8) (ha : (x : Int) / 16 = (a : Int)) (ha16 : a < 16)
    (hlo : w.cell? ⟨2, a * 2, none⟩ = some (.int .u8 lo)) (hhi : w.cell? ⟨2, a * 2 + 1, none⟩ = some (.int .u8 hi)) (h1 : w.cell? ⟨b, off + 1, none⟩ = some (.int .u8 b1)) (hl : ¬ b1 < lo) (hh : hi < b1) : FullOk 3 b off cap w true := by
  unfold FullOk
  have hi0 : (0 : Int) ≤ (b0 : Int) := by omega
  have hi1 : (b0 : Int) < 256 := by omega
  have ha0 : (0 : Int) ≤ (a : Int) := by omega
  have ha1 : (a : Int) < 16 := by omega
  have hd1 : decide ((sz : Int) ≤ 3) = false := by simp; omega
  have hd2 : decide (sz ≤ 3) = false := by simp; omega
  have hl1 : decide (b1 < lo) = false := by simpa using hl
  have hh1 : decide (hi < b1) = true := by simpa using hh
  clear hl
  have ha1_ : ∀ o : Obj, (w.alloc o).cell? ⟨b, off + 1, none⟩ = some (.int .u8 b1) := fun o => (World.cell?_alloc_lt w o _ (World.block_lt_of_cell? w _ h1)).trans h1
  clear hb hsz
  go_enter Tryd.func84, Tryd.ntmps84
  go_wp2_with (fail)
  go_quiet (fail)
  go_wp2_with (fail)
  go_ret
  exact ⟨rfl, by repeat (first | exact Below.refl _ _ | apply pw_below_drewN | apply below_drew1 | refine Below.alloc ?_ (by simp) _)⟩

set_option maxHeartbeats 2000000 in
set_option maxRecDepth 100000 in
theorem full_3b (b off cap b0 x sz a lo hi b1 b2 : Nat) (w : World) (hb : b0 < 256) (h0 : w.cell? ⟨b, off, none⟩ = some (.int .u8 b0)) (hx : w.cell? ⟨1, b0, none⟩ = some (.int .u8 x))
    (hand : bits .and .u8 (x : Int) 7 = (sz : Int)) (hsz : 3 < sz) (h8 : sz < 8) (ha : (x : Int) / 16 = (a : Int)) (ha16 : a < 16)
    (hlo : w.cell? ⟨2, a * 2, none⟩ = some (.int .u8 lo)) (hhi : w.cell? ⟨2, a * 2 + 1, none⟩ = some (.int .u8 hi)) (h1 : w.cell? ⟨b, off + 1, none⟩ = some (.int .u8 b1)) (h2 : w.cell? ⟨b, off + 2, none⟩ = some (.int .u8 b2)) (hl : ¬ b1 < lo) (hh : ¬ hi < b1) (h2l : b2 < 128) : FullOk 3 b off cap w true := by
  unfold FullOk
  have hi0 : (0 : Int) ≤ (b0 : Int) := by omega
  have hi1 : (b0 : Int) < 256 := by omega
  have ha0 : (0 : Int) ≤ (a : Int) := by omega
  have ha1 : (a : Int) < 16 := by omega
  have hd1 : decide ((sz : Int) ≤ 3) = false := by simp; omega
  have hd2 : decide (sz ≤ 3) = false := by simp; omega
  have hl1 : decide (b1 < lo) = false := by simpa using hl
  have hh1 : decide (hi < b1) = false := by simpa using hh
  clear hl hh
  have hm1 : decide (b2 < 128) = true := by simpa using h2l
  have hm2 : decide ((b2 : Int) < 128) = true := by simp; omega
  have ha1_ : ∀ o : Obj, (w.alloc o).cell? ⟨b, off + 1, none⟩ = some (.int .u8 b1) := fun o => (World.cell?_alloc_lt w o _ (World.block_lt_of_cell? w _ h1)).trans h1
  have ha2_ : ∀ o : Obj, (w.alloc o).cell? ⟨b, off + 2, none⟩ = some (.int .u8 b2) := fun o => (World.cell?_alloc_lt w o _ (World.block_lt_of_cell? w _ h2)).trans h2
  clear hb hsz
  go_enter Tryd.func84, Tryd.ntmps84
  go_wp2_with (fail)
  go_quiet (fail)
  go_wp2_with (fail)
  go_ret
  exact ⟨rfl, by repeat (first | exact Below.refl _ _ | apply pw_below_drewN | apply below_drew1 | refine Below.alloc ?_ (by simp) _)⟩

set_option maxHeartbeats 2000000 in
set_option maxRecDepth 100000 in
theorem full_3c (b off cap b0 x sz a lo hi b1 b2 : Nat) (w : World) (hb : b0 < 256) (h0 : w.cell? ⟨b, off, none⟩ = some (.int .u8 b0)) (hx : w.cell? ⟨1, b0, none⟩ = some (.int .u8 x))
    (hand : bits .and .u8 (x : Int) 7 = (sz : Int)) (hsz : 3 < sz) (h8 : sz < 8) (ha : (x : Int) / 16 = (a : Int)) (ha16 : a < 16)
    (hlo : w.cell? ⟨2, a * 2, none⟩ = some (.int .u8 lo)) (hhi : w.cell? ⟨2, a * 2 + 1, none⟩ = some (.int .u8 hi)) (h1 : w.cell? ⟨b, off + 1, none⟩ = some (.int .u8 b1)) (h2 : w.cell? ⟨b, off + 2, none⟩ = some (.int .u8 b2)) (hl : ¬ b1 < lo) (hh : ¬ hi < b1) (h2l : ¬ b2 < 128) (h2h : 191 < b2) : FullOk 3 b off cap w true := by
  unfold FullOk
  have hi0 : (0 : Int) ≤ (b0 : Int) := by omega
  have hi1 : (b0 : Int) < 256 := by omega
  have ha0 : (0 : Int) ≤ (a : Int) := by omega
  have ha1 : (a : Int) < 16 := by omega
  have hd1 : decide ((sz : Int) ≤ 3) = false := by simp; omega
  have hd2 : decide (sz ≤ 3) = false := by simp; omega
  have hl1 : decide (b1 < lo) = false := by simpa using hl
  have hh1 : decide (hi < b1) = false := by simpa using hh
  clear hl hh
  have hm1 : decide (b2 < 128) = false := by simpa using h2l
  have hm2 : decide ((b2 : Int) < 128) = false := by simp; omega
  have hm3 : decide (191 < b2) = true := by simpa using h2h
  have hm4 : decide ((191 : Int) < b2) = true := by simp; omega
  clear h2l
  have ha1_ : ∀ o : Obj, (w.alloc o).cell? ⟨b, off + 1, none⟩ = some (.int .u8 b1) := fun o => (World.cell?_alloc_lt w o _ (World.block_lt_of_cell? w _ h1)).trans h1
  have ha2_ : ∀ o : Obj, (w.alloc o).cell? ⟨b, off + 2, none⟩ = some (.int .u8 b2) := fun o => (World.cell?_alloc_lt w o _ (World.block_lt_of_cell? w _ h2)).trans h2
  clear hb hsz
  go_enter Tryd.func84, Tryd.ntmps84
  go_wp2_with (fail)
  go_quiet (fail)
  go_wp2_with (fail)
  go_ret
  exact ⟨rfl, by repeat (first | exact Below.refl _ _ | apply pw_below_drewN | apply below_drew1 | refine Below.alloc ?_ (by simp) _)⟩

set_option maxHeartbeats 2000000 in
set_option maxRecDepth 100000 in
theorem full_3ok (b off cap b0 x sz a lo hi b1 b2 : Nat) (w : World) (hb : b0 < 256) (h0 : w.cell? ⟨b, off, none⟩ = some (.int .u8 b0)) (hx : w.cell? ⟨1, b0, none⟩ = some (.int .u8 x))
    (hand : bits .and .u8 (x : Int) 7 = (sz : Int)) (hsz : 3 < sz) (h8 : sz < 8) (ha : (x : Int) / 16 = (a : Int)) (ha16 : a < 16)
    (hlo : w.cell? ⟨2, a * 2, none⟩ = some (.int .u8 lo)) (hhi : w.cell? ⟨2, a * 2 + 1, none⟩ = some (.int .u8 hi)) (h1 : w.cell? ⟨b, off + 1, none⟩ = some (.int .u8 b1)) (h2 : w.cell? ⟨b, off + 2, none⟩ = some (.int .u8 b2)) (hl : ¬ b1 < lo) (hh : ¬ hi < b1) (h2l : ¬ b2 < 128) (h2h : ¬ 191 < b2) : FullOk 3 b off cap w false := by
  unfold FullOk
  have hi0 : (0 : Int) ≤ (b0 : Int) := by omega
  have hi1 : (b0 : Int) < 256 := by omega
  have ha0 : (0 : Int) ≤ (a : Int) := by omega
  have ha1 : (a : Int) < 16 := by omega
  have hd1 : decide ((sz : Int) ≤ 3) = false := by simp; omega
  have hd2 : decide (sz ≤ 3) = false := by simp; omega
  have hl1 : decide (b1 < lo) = false := by simpa using hl
  have hh1 : decide (hi < b1) = false := by simpa using hh
  clear hl hh
  have hm1 : decide (b2 < 128) = false := by simpa using h2l
  have hm2 : decide ((b2 : Int) < 128) = false := by simp; omega
  have hm3 : decide (191 < b2) = false := by simpa using h2h
  have hm4 : decide ((191 : Int) < b2) = false := by simp; omega
  clear h2l h2h
  have ha1_ : ∀ o : Obj, (w.alloc o).cell? ⟨b, off + 1, none⟩ = some (.int .u8 b1) := fun o => (World.cell?_alloc_lt w o _ (World.block_lt_of_cell? w _ h1)).trans h1
  have ha2_ : ∀ o : Obj, (w.alloc o).cell? ⟨b, off + 2, none⟩ = some (.int .u8 b2) := fun o => (World.cell?_alloc_lt w o _ (World.block_lt_of_cell? w _ h2)).trans h2
  clear hb hsz
  go_enter Tryd.func84, Tryd.ntmps84
  go_wp2_with (fail)
  go_quiet (fail)
  go_wp2_with (fail)
  go_ret
  exact ⟨rfl, by repeat (first | exact Below.refl _ _ | apply pw_below_drewN | apply below_drew1 | refine Below.alloc ?_ (by simp) _)⟩

end Go.Proofs.YtmdeehblmkpddaaDoor.Hand
