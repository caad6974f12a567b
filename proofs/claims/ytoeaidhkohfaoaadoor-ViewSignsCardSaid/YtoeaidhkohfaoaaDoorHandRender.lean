/- view.Render. -/
import Derived.Test.YtoeaidhkohfaoaaDoorHandRepeat
import Derived.Lib.AppendStr
import Derived.OwnWalk
import Derived.Lib.SmallJoins
import Derived.Lib.ItoaLen
namespace Go.Proofs.YtoeaidhkohfaoaaDoor.Hand
open Go.RowKit Go.Proofs.YtoeaidhkohfaoaaDoorW.PrintWords Go.Proofs.YtoeaidhkohfaoaaDoorW.PrintLast
set_option linter.unusedVariables false
set_option linter.unusedSimpArgs false

theorem gPow : Tryd.prog.globalNamed "internal/strconv.uint64pow10" = some 3 := by kernel_rfl
/-- The tables of a rendering. -/
structure TabV (w : World) : Prop where
  u8 : U8In w
  pow : Lib.TabIs Tryd.prog w "internal/strconv.uint64pow10" .u64 Lib.pow10Tab
theorem own_below {W W' : World} {base e sz n : Nat} {v : Value} {xs : List Value} (h : W.ownsRow base e sz v n xs) (hb : Below W.heap.size W W') : W'.ownsRow base e sz v n xs :=
  h.kept (row := none) ⟨hb.os, hb.tape, hb.output, hb.size, fun k hk _ => hb.block k hk⟩ (by
    rcases h.2 with ⟨rfl, _⟩ | ⟨g, cap, cur, rfl, _⟩
    · exact .inl rfl
    · exact .inr (by simp [Value.ownBlock]))

theorem own_lower {W : World} {b b' e sz n : Nat} {v : Value} {xs : List Value} (h : W.ownsRow b e sz v n xs) (hb : b' ≤ b) : W.ownsRow b' e sz v n xs :=
  ⟨h.1, h.2.imp id fun ⟨g, cap, cur, h1, h2, h3⟩ => ⟨g, cap, cur, h1, Nat.le_trans hb h2, h3⟩⟩
/-- A number's digits, as numbers. -/
def itoaI (i : Int) : List Int := (Lib.itoa i).map fun b => (b.toNat : Int)
def backL (d : Int) : List Int := if 0 < d then [27, 91] ++ itoaI d ++ [68] else []
def renderL (s : ByteArray) (mode count at_ : Int) : List Int :=
  [13] ++ bytesOf s ++ List.replicate (starsI mode count).toNat 42 ++ [27, 91, 75] ++ backL (starsI mode count - placeI mode count at_)
def RenderOk (s : ByteArray) (mode room count at_ : Int) (w : World) (xs : List Int) (r : Int) : Prop :=
  Calls Tryd.prog 9 #[.agg #[.string s, .int .i64 mode, .int .i64 room], .int .i64 count, .int .i64 at_] w fun e w' => ∃ v, e = .returned (.tuple #[v, .int .i64 r]) ∧ w'.ownsRow w.heap.size 5 1 v xs.length (nums .u8 xs) ∧ Below w.heap.size w w'

set_option maxHeartbeats 1000000 in
set_option maxRecDepth 100000 in
theorem render_err (s : ByteArray) (mode room count at_ : Int) (hs : s.size ≤ 9223372036854775807) (w : World) (HU : U8In w) (h : checkI s mode room ≠ 0) : RenderOk s mode room count at_ w [] (checkI s mode room) := by
  unfold RenderOk
  have z0 : Below w.heap.size w (w.alloc (.cells #[.string s, .int .i64 mode, .int .i64 room] 23)) := (Below.refl w.heap.size w).alloc (Nat.le_refl _) _
  have hne : (checkI s mode room != 0) = true := by simpa using h
  go_enter Tryd.func9, Tryd.ntmps9
  go_wp2_with (fail)
  refine (check_ok s mode room hs _ (HU.below z0)).mono ?_
  rintro e w1 ⟨rfl, hb⟩
  go_wp2_with (fail)
  go_ret2
  exact ⟨_, rfl, ⟨rfl, .inl ⟨rfl, rfl⟩⟩, z0.trans (hb.mono z0.size)⟩

set_option maxHeartbeats 1000000 in
set_option maxRecDepth 100000 in
theorem render_out (s : ByteArray) (mode room count at_ : Int) (hs : s.size ≤ 9223372036854775807) (w : World) (HU : U8In w) (h : checkI s mode room = 0) (hr : rightB mode count at_ = false) : RenderOk s mode room count at_ w [] 3 := by
  unfold RenderOk
  have z0 : Below w.heap.size w (w.alloc (.cells #[.string s, .int .i64 mode, .int .i64 room] 23)) := (Below.refl w.heap.size w).alloc (Nat.le_refl _) _
  have hk := check_ok s mode room hs (w.alloc (.cells #[.string s, .int .i64 mode, .int .i64 room] 23)) (HU.below z0)
  have c1 : (w.alloc (.cells #[.string s, .int .i64 mode, .int .i64 room] 23)).cell? ⟨w.heap.size, 1, none⟩ = some (.int .i64 mode) := (blk_cell (heap_alloc_new w _) 1).trans rfl
  rw [h] at hk
  go_enter Tryd.func9, Tryd.ntmps9
  go_wp2_with (fail)
  refine hk.mono ?_
  rintro e w1 ⟨rfl, hb⟩
  have c1' := cell_stays c1 hb
  go_wp2_with (fail)
  refine (right_ok mode count at_ _).mono ?_
  rw [hr]
  rintro e w2 ⟨rfl, hb2⟩
  go_wp2_with (fail)
  go_ret2
  exact ⟨_, rfl, ⟨rfl, .inl ⟨rfl, rfl⟩⟩, (z0.trans (hb.mono z0.size)).trans (hb2.mono (Nat.le_trans z0.size hb.size))⟩

theorem rep_any (A : Option Addr) (c : Nat) (n : Nat) (hn : n ≤ 1024) (w : World) (hC : Kd.C (Kd.int .u8) w A 1 [42]) (hc : 1 ≤ c) : RepOk A c n w := by
  rcases Nat.eq_zero_or_pos n with rfl | h
  · exact rep_0 A c w
  · exact rep_n A c n h hn w hC hc
theorem readsInt_of_C {w : World} {A : Option Addr} {n : Nat} {l : List Int} (h : Kd.C (Kd.int .u8) w A n l) : ReadsInt w .u8 A n l := Kd.reads_of_C (d := (0 : Int)) h
theorem C_lit1 (W : World) (x : Int) : Kd.C (Kd.int .u8) (W.alloc (.cells #[.int .u8 x] 5)) (some ⟨W.heap.size, 0, none⟩) 1 [x] := by
  refine Kd.C_of_reads (d := (0 : Int)) ⟨rfl, by decide, fun _ => ⟨_, rfl, fun j hj => ?_⟩⟩
  obtain rfl : j = 0 := by omega
  rw [Addr.add_zero']
  exact (blk_cell (heap_alloc_new W _) 0).trans rfl

set_option maxHeartbeats 4000000 in
set_option maxRecDepth 100000 in
theorem render_main (s : ByteArray) (mode room count at_ : Int) (n p d : Nat) (hst : starsI mode count = n) (hpl : placeI mode count at_ = p) (hd : Aside0 (n = p + d)) (hn : n ≤ 1024) (hs : s.size ≤ 256) (w : World) (HT : TabV w) (h : checkI s mode room = 0) (hr : rightB mode count at_ = true) :
    RenderOk s mode room count at_ w ([13] ++ bytesOf s ++ List.replicate n 42 ++ [27, 91, 75] ++ backL (d : Int)) 0 := by
  unfold RenderOk
  have z0 : Below w.heap.size w (w.alloc (.cells #[.string s, .int .i64 mode, .int .i64 room] 23)) := (Below.refl w.heap.size w).alloc (Nat.le_refl _) _
  have hk := check_ok s mode room (by omega) (w.alloc (.cells #[.string s, .int .i64 mode, .int .i64 room] 23)) (HT.u8.below z0)
  have c0 : (w.alloc (.cells #[.string s, .int .i64 mode, .int .i64 room] 23)).cell? ⟨w.heap.size, 0, none⟩ = some (.string s) := (blk_cell (heap_alloc_new w _) 0).trans rfl
  have c1 : (w.alloc (.cells #[.string s, .int .i64 mode, .int .i64 room] 23)).cell? ⟨w.heap.size, 1, none⟩ = some (.int .i64 mode) := (blk_cell (heap_alloc_new w _) 1).trans rfl
  rw [h] at hk
  go_enter Tryd.func9, Tryd.ntmps9
  go_wp2_with (fail)
  refine hk.mono ?_
  rintro e w1 ⟨rfl, hb⟩
  have c1' := cell_stays c1 hb
  generalize hW0 : w.alloc (.cells #[.string s, .int .i64 mode, .int .i64 room] 23) = W0 at *
  clear hk
  go_wp2_with (fail)
  refine (right_ok mode count at_ _).mono ?_
  rw [hr]
  rintro e w2 ⟨rfl, hb2⟩
  have q2 : Below W0.heap.size W0 w2 := hb.trans (hb2.mono hb.size)
  have c1'' := cell_stays c1 q2
  go_wp2_with (fail)
  refine (stars_ok mode count _).mono ?_
  rw [hst]
  rintro e w3 ⟨rfl, hb3⟩
  have q3 : Below W0.heap.size W0 w3 := q2.trans (hb3.mono q2.size)
  have c3 := cell_stays c0 (below_alloc q3 (.cells #[.int .u8 13] 5))
  clear c1' c1'' hb2 hb
  have o3 := own_lit w3 W0.heap.size 5 .u8 [13] q3.size (by decide)
  go_wp2_with (at_builtin; refine print_append_str (w0 := W0) W0.heap.size rfl _ _ 25 9 5 rfl Tryd.underlying25 Tryd.underlying9 PNext.info5 _ [13] s rfl rfl o3 (below_alloc q3 _) (Nat.le_trans q3.size (by simp)) (by simp; omega) ?_; intro v4 w4 o4 q4 g4)
  refine (rep_any _ 1 n hn _ (C_lit1 w4 42) (Nat.le_refl _)).mono ?_
  rintro e w5 ⟨A', c', rfl, hc', hC5, hb5⟩
  have q5 : Below W0.heap.size W0 w5 := (below_alloc q4 (.cells #[.int .u8 42] 5)).trans (hb5.mono (Nat.le_trans q4.size (by simp)))
  have o5 := own_below (own_below o4 (below_alloc (Below.refl w4.heap.size w4) (.cells #[.int .u8 42] 5))) hb5
  clear g4 o4 q4 hb5 o3 c3 q3 q2 hb3
  go_wp2_with (first | (at_builtin; refine print_append_row (w0 := W0) W0.heap.size rfl _ _ 25 5 .u8 1 rfl Tryd.underlying25 PNext.info5 (by decide) _ ([13] ++ bytesOf s) (List.replicate n 42) A' n c' rfl rfl o5 (readsInt_of_C hC5) q5 q5.size (by simp [bytesOf_length]; omega) ?_; intro v6 w6 o6 q6 g6 _) | (at_builtin; refine print_append_str (w0 := W0) W0.heap.size rfl _ _ 25 9 5 rfl Tryd.underlying25 Tryd.underlying9 PNext.info5 _ ([13] ++ bytesOf s ++ List.replicate n 42) ⟨#[27, 91, 75]⟩ rfl rfl o6 q6 q6.size (by simp [bytesOf_length]; show s.size + n + 1 + 3 ≤ _; omega) ?_; intro v7 w7 o7 q7 g7; have c7 := cell_stays c1 q7))
  refine (place_ok mode count at_ _).mono ?_
  rw [hpl]
  rintro e w8 ⟨rfl, hb8⟩
  have q8 : Below W0.heap.size W0 w8 := q7.trans (hb8.mono q7.size)
  have o8 := own_below o7 hb8
  have hsub : IntKind.i64.wrap ((n : Int) - (p : Int)) = d := by have := hd.out; unfold IntKind.wrap; simp [IntKind.bits]; omega
  clear hb8 g7 o7 q7 q6 o6 g6 q5 o5 hC5 hc' c7
  have hW : w.heap.size ≤ W0.heap.size := z0.size
  have hpow := Joins.tab_stays gPow HT.pow z0 (Nat.le_refl _)
  have htab : ∀ W, Below W0.heap.size W0 W → Lib.TabBelow Tryd.prog W0.heap.size W "internal/strconv.uint64pow10" .u64 Lib.pow10Tab := fun W hW' W' hb' => Joins.tab_stays gPow HT.pow ((z0.trans (hW'.mono z0.size)).trans (hb'.mono z0.size)) (Nat.le_refl _)
  have zz := Aside0.mk z0
  clear z0 hpow HT c0 c1
  by_cases h0 : d = 0
  · subst h0
    go_wp2_with (fail)
    go_ret2
    refine ⟨_, rfl, ?_, zz.out.trans (q8.mono hW)⟩
    have e : backL ((0 : Nat) : Int) = [] := rfl
    rw [e, List.append_nil]
    exact own_lower o8 hW
  · have hpos : (0 : Int) < (d : Int) := by omega
    have hdn : d ≤ 1024 := by have := hd.out; omega
    have hlen := Lib.itoa_length_le (d : Int) (by omega) (by omega)
    have o8' : w8.ownsRow W0.heap.size 5 1 v7 ([13] ++ bytesOf s ++ List.replicate n 42 ++ [27, 91, 75]).length (nums .u8 ([13] ++ bytesOf s ++ List.replicate n 42 ++ [27, 91, 75])) := o8
    go_wp2_with (at_builtin; refine print_append_str (w0 := W0) W0.heap.size rfl _ _ 25 9 5 rfl Tryd.underlying25 Tryd.underlying9 PNext.info5 _ ([13] ++ bytesOf s ++ List.replicate n 42 ++ [27, 91, 75]) ⟨#[27, 91]⟩ rfl rfl o8' q8 q8.size (by simp [bytesOf_length]; show s.size + (n + 3) + 1 + 2 ≤ _; omega) ?_; intro v9 w9 o9 q9 g9)
    have e2 : (bytesOf ⟨#[27, 91]⟩).length = 2 := rfl
    have eb : bytesOf ⟨#[27, 91]⟩ = [27, 91] := rfl
    have hX : ([13] ++ bytesOf s ++ List.replicate n 42 ++ [27, 91, 75] ++ bytesOf ⟨#[27, 91]⟩).length = s.size + n + 6 := by
      rw [List.length_append, e2]
      simp [bytesOf_length]
      omega
    refine (Tryd.strconv_AppendInt_10 W0.heap.size _ (d : Int) (by omega) (by omega) v9 _ w9 o9 q9.size (by rw [hX]; omega) (htab w9 q9)).mono ?_
    rintro e w10 ⟨v10, rfl, o10, hb10, _⟩
    have q10 := q9.trans hb10
    have hI : (itoaI (d : Int)).length = (Lib.itoa (d : Int)).length := by unfold itoaI; rw [List.length_map]
    have o11 : w10.ownsRow W0.heap.size 5 1 v10 ([13] ++ bytesOf s ++ List.replicate n 42 ++ [27, 91, 75] ++ bytesOf ⟨#[27, 91]⟩ ++ itoaI (d : Int)).length (nums .u8 ([13] ++ bytesOf s ++ List.replicate n 42 ++ [27, 91, 75] ++ bytesOf ⟨#[27, 91]⟩ ++ itoaI (d : Int))) := by
      rw [List.length_append, hI, nums_append]
      have : nums .u8 (itoaI (d : Int)) = Lib.byteCells (Lib.itoa (d : Int)) := by
        unfold nums itoaI Lib.byteCells
        rw [List.map_map]
        rfl
      rw [this]
      exact o10
    have o11' := Aside0.mk (own_below o11 (below_alloc (Below.refl w10.heap.size w10) (.cells #[.int .u8 68] 5)))
    have hl := Aside0.mk (show (([13] ++ bytesOf s ++ List.replicate n 42 ++ [27, 91, 75] ++ bytesOf ⟨#[27, 91]⟩ ++ itoaI (d : Int)).length + 1) * 1 ≤ 140737488355328 by rw [List.length_append, hX, hI]; omega)
    have qq := Aside0.mk (below_alloc q10 (.cells #[.int .u8 68] 5))
    have qs := Aside0.mk (Nat.le_trans q10.size (show w10.heap.size ≤ (w10.alloc (.cells #[.int .u8 68] 5)).heap.size by simp))
    clear o10 hb10 o9 q9 g9 o8 o8' q8 hX e2 hI htab o11 q10
    go_wp2_with (at_builtin; refine print_append_row (w0 := W0) W0.heap.size rfl _ _ 25 5 .u8 1 rfl Tryd.underlying25 PNext.info5 (by decide) _ ([13] ++ bytesOf s ++ List.replicate n 42 ++ [27, 91, 75] ++ bytesOf ⟨#[27, 91]⟩ ++ itoaI (d : Int)) [68] (some ⟨w10.heap.size, 0, none⟩) 1 1 rfl rfl o11'.out (readsInt_of_C (C_lit1 w10 68)) qq.out qs.out hl.out ?_; intro v12 w12 o12 q12 g12 _)
    go_ret2
    refine ⟨_, rfl, ?_, zz.out.trans (q12.mono hW)⟩
    have e : backL (d : Int) = [27, 91] ++ itoaI (d : Int) ++ [68] := if_pos hpos
    rw [e]
    have o12' := own_lower o12 hW
    rw [eb] at o12'
    have o13 : w12.ownsRow w.heap.size 5 1 v12 ([13] ++ bytesOf s ++ List.replicate n 42 ++ [27, 91, 75] ++ ([27, 91] ++ itoaI (d : Int) ++ [68])).length (nums .u8 ([13] ++ bytesOf s ++ List.replicate n 42 ++ [27, 91, 75] ++ ([27, 91] ++ itoaI (d : Int) ++ [68]))) := by simpa only [List.append_assoc] using o12'
    exact o13

def view_Render.f (k : Nat) (a0_0 : ByteArray) (a0_1 a0_2 a1 a2 : Int) : Option (List Int × Int) :=
  if a0_0.size ≤ 9223372036854775807 then some (if checkI a0_0 a0_1 a0_2 ≠ 0 then ([], checkI a0_0 a0_1 a0_2) else if rightB a0_1 a1 a2 = true then (renderL a0_0 a0_1 a1 a2, 0) else ([], 3)) else none
theorem view_Render.mono : ∀ a0 a1 a2 a3 a4 k, LeO (view_Render.f k a0 a1 a2 a3 a4) (view_Render.f (k + 1) a0 a1 a2 a3 a4) := fun _ _ _ _ _ _ => LeO.refl _
theorem check_size {s : ByteArray} {mode room : Int} (h : checkI s mode room = 0) : s.size ≤ 256 := by
  unfold checkI at h
  split at h
  · split at h
    · omega
    · omega
  · omega
theorem view_Render.calls (k : Nat) (a0_0 : ByteArray) (a0_1 a0_2 a1 a2 : Int) (r1 : List Int) (r2 : Int) (w : World) (HT : TabV w) (h : view_Render.f k a0_0 a0_1 a0_2 a1 a2 = some (r1, r2)) :
    Calls Tryd.prog 9 #[.agg #[.string a0_0, .int .i64 a0_1, .int .i64 a0_2], .int .i64 a1, .int .i64 a2] w fun e w' => ∃ v0_ : Value, e = .returned (.tuple #[v0_, .int .i64 r2]) ∧ Kd.R (Kd.int .u8) 5 w' w.heap.size (fun _ => True) v0_ r1 ∧ Below w.heap.size w w' := by
  have fin : RenderOk a0_0 a0_1 a0_2 a1 a2 w r1 r2 := by
    unfold view_Render.f at h
    by_cases hs : a0_0.size ≤ 9223372036854775807
    · rw [if_pos hs] at h
      have h := Option.some.inj h
      by_cases hc : checkI a0_0 a0_1 a0_2 = 0
      · rw [if_neg (fun x => x hc)] at h
        by_cases hr : rightB a0_1 a1 a2 = true
        · rw [if_pos hr] at h
          obtain ⟨rfl, rfl⟩ := Prod.mk.inj h
          have hm := rightB_count hr
          have hr0 : rightB a0_1 a1 0 = true := by
            unfold rightB
            simp
            omega
          have hst : 0 ≤ starsI a0_1 a1 ∧ starsI a0_1 a1 ≤ 1024 ∧ 0 ≤ placeI a0_1 a1 a2 ∧ placeI a0_1 a1 a2 ≤ starsI a0_1 a1 := by
            unfold starsI placeI
            rw [if_pos hr, if_pos hr0]
            repeat' split
            all_goals omega
          have := render_main a0_0 a0_1 a0_2 a1 a2 (starsI a0_1 a1).toNat (placeI a0_1 a1 a2).toNat (starsI a0_1 a1 - placeI a0_1 a1 a2).toNat (by omega) (by omega) ⟨by omega⟩ (by omega) (check_size hc) w HT hc hr
          rw [show (((starsI a0_1 a1 - placeI a0_1 a1 a2).toNat : Nat) : Int) = starsI a0_1 a1 - placeI a0_1 a1 a2 by omega] at this
          exact this
        · rw [if_neg hr] at h
          obtain ⟨rfl, rfl⟩ := Prod.mk.inj h
          exact render_out a0_0 a0_1 a0_2 a1 a2 hs w HT.u8 hc (by simpa using hr)
      · rw [if_pos hc] at h
        obtain ⟨rfl, rfl⟩ := Prod.mk.inj h
        exact render_err a0_0 a0_1 a0_2 a1 a2 hs w HT.u8 hc
    · rw [if_neg hs] at h
      cases h
  refine fin.mono ?_
  rintro e w' ⟨v, rfl, ho, hb⟩
  exact ⟨v, rfl, Kd.R_of_own ho (fun _ _ => trivial), hb⟩

end Go.Proofs.YtoeaidhkohfaoaaDoor.Hand
