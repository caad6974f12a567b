/- keys.Names and whispererref08.Bytes in the print's shape. -/
import Derived.Test.YtanlgkmijegefaaDoorHandKeyRd
import Derived.Test.YtanlgkmijegefaaDoorPPutx1
namespace Go.Proofs.YtanlgkmijegefaaDoor.Hand
open Go.RowKit Go.Maps Go.WideShapes Go.WideMaps Go.ChangeMaps Go.Proofs.YtanlgkmijegefaaDoorW.PrintWords Go.Proofs.YtanlgkmijegefaaDoorW.PrintLast Go.Proofs.YtanlgkmijegefaaDoor.Pcheck
set_option linter.unusedVariables false
set_option linter.unusedSimpArgs false

def keys_Names.f : Option (List ByteArray) := some (namesBA.take 16)
set_option maxHeartbeats 1000000 in
set_option maxRecDepth 100000 in
theorem keys_Names.calls (r : List ByteArray) (w : World) (HT : Tab w) (h : keys_Names.f = some r) :
    Calls Tryd.prog 17 #[] w fun e w' => ∃ v0_ : Value, e = .returned v0_ ∧ Kd.R Kd.string 9 w' w.heap.size (fun _ => True) v0_ r ∧ Below w.heap.size w w' := by
  obtain rfl := Option.some.inj h
  go_enter Tryd.func17, Tryd.ntmps17
  go_wp2_with (fail)
  refine (Tryd.slices_Clone_string 0 0 16 16 namesBA _ (by decide) (by decide) (fun j hj => by
    have hj' : j < 16 := hj
    rw [Nat.zero_add]
    refine (HT.nm j hj').trans ?_
    unfold nameB namesBA
    rw [List.getD_eq_getElem?_getD, List.getD_eq_getElem?_getD, List.getElem?_map, List.getElem?_eq_getElem (show j < nameL.length from hj')]
    rfl)).mono ?_
  rintro e w2 ⟨v', rfl, hown, _, hb⟩
  go_wp2_with (fail)
  go_ret
  exact ⟨_, rfl, Kd.R_of_own hown (fun _ _ => trivial), hb⟩

theorem lit_Vg (W : World) (base g : Nat) (hg : W.heap.size = g) (xs : List Int) (e : TypeId) (fr : Nat × Nat) (hb : base ≤ W.heap.size) (hm : xs.length ≤ 9223372036854775807) :
    Kd.V (Kd.int .u8) 5 (W.alloc (.cells (xs.map (Value.int .u8)).toArray e fr)) base (fun k_ => base ≤ k_) (.slice (some ⟨g, 0, none⟩) xs.length xs.length) xs := by
  subst hg
  exact lit_V W base xs e fr hb hm
theorem lit_sub (W : World) (base g j c : Nat) (hg : W.heap.size = g) (xs : List Int) (e : TypeId) (fr : Nat × Nat) (hb : base ≤ W.heap.size) (hj : j < xs.length) (hc : 1 ≤ c) :
    Kd.V (Kd.int .u8) 5 (W.alloc (.cells (xs.map (Value.int .u8)).toArray e fr)) base (fun k_ => base ≤ k_) (.slice (some ⟨g, j, none⟩) 1 c) [xs.getD j 0] := by
  subst hg
  refine Kd.V_mk (xs := [xs.getD j 0]) hc ?_
  intro W' hW
  have hblk : W'.heap[W.heap.size]? = some (.cells (xs.map (Value.int .u8)).toArray e fr) := by
    rw [hW W.heap.size hb (by simp)]
    exact heap_alloc_new W _
  refine Kd.C_of_reads (d := (0 : Int)) ⟨rfl, by simp, fun _ => ⟨_, rfl, fun i hi => ?_⟩⟩
  have hi0 : i = 0 := by simp at hi; omega
  subst hi0
  have hc := cell_of_row _ W.heap.size j _ e fr hblk
  rw [Addr.add_zero', hc]
  simp [List.getElem?_eq_getElem hj, List.getD_eq_getElem?_getD]
def ref08L : List Int := [0, 13, 127, 0, 2, 6, 1, 5, 21, 11, 12, 3, 4, 0, 0, 0]
def ref08_Bytes.f (a0_0 : Int) (a0_1 : Int) : Option (List Int) :=
  if a0_0 = 0 then PPut.whispererref01_Put.f a0_1 else if a0_0 = 3 then some [27, 91, 51, 126] else if a0_0 = 13 then some [27, 91, 50, 48, 48, 126] else if a0_0 = 14 then some [27, 91, 50, 48, 49, 126]
  else if 0 ≤ a0_0 ∧ a0_0 < 16 then some [ref08L.getD a0_0.toNat 0] else none
def RefOk (a c : Int) (w : World) (r : List Int) : Prop := Calls Tryd.prog 20 #[.agg #[.int .i64 a, .int .i64 c]] w fun e w' => ∃ v0_ : Value, e = .returned v0_ ∧ Kd.V (Kd.int .u8) 5 w' w.heap.size (fun k_ => w.heap.size ≤ k_) v0_ r ∧ Below w.heap.size w w'

set_option maxHeartbeats 1000000 in
set_option maxRecDepth 100000 in
theorem ref_0 (c : Int) (r : List Int) (w : World) (h : PPut.whispererref01_Put.f c = some r) : RefOk 0 c w r := by
  unfold RefOk
  go_enter Tryd.func20, Tryd.ntmps20
  go_wp2_with (fail)
  refine (PPut.whispererref01_Put.calls c r _ h).mono ?_
  rintro e w2 ⟨v0, rfl, ho, hb⟩
  go_wp2_with (fail)
  go_ret
  have z1 : Below w.heap.size w w2 := ((Below.refl w.heap.size w).alloc (Nat.le_refl _) _).trans (hb.mono (by simp))
  exact ⟨_, rfl, Kd.V_mono (Kd.R_V (Kd.R_bound ho)) (fun k_ hk => Nat.le_trans (by simp) hk.2.1), z1⟩
set_option maxHeartbeats 1000000 in
set_option maxRecDepth 100000 in
theorem ref_3 (c : Int) (w : World) : RefOk 3 c w [27, 91, 51, 126] := by
  unfold RefOk
  go_enter Tryd.func20, Tryd.ntmps20
  go_wp2_with (fail)
  go_ret
  have z1 := (Below.refl w.heap.size w).alloc (Nat.le_refl _) (.cells #[.int .i64 3, .int .i64 c] 23)
  exact ⟨_, rfl, lit_Vg _ _ (w.heap.size + 1) (by simp) [27, 91, 51, 126] _ _ z1.size (by simp), z1.alloc z1.size _⟩
set_option maxHeartbeats 1000000 in
set_option maxRecDepth 100000 in
theorem ref_13 (c : Int) (w : World) : RefOk 13 c w [27, 91, 50, 48, 48, 126] := by
  unfold RefOk
  go_enter Tryd.func20, Tryd.ntmps20
  go_wp2_with (fail)
  go_ret
  have z1 := (Below.refl w.heap.size w).alloc (Nat.le_refl _) (.cells #[.int .i64 13, .int .i64 c] 23)
  exact ⟨_, rfl, lit_Vg _ _ (w.heap.size + 1) (by simp) [27, 91, 50, 48, 48, 126] _ _ z1.size (by simp), z1.alloc z1.size _⟩
set_option maxHeartbeats 1000000 in
set_option maxRecDepth 100000 in
theorem ref_14 (c : Int) (w : World) : RefOk 14 c w [27, 91, 50, 48, 49, 126] := by
  unfold RefOk
  go_enter Tryd.func20, Tryd.ntmps20
  go_wp2_with (fail)
  go_ret
  have z1 := (Below.refl w.heap.size w).alloc (Nat.le_refl _) (.cells #[.int .i64 14, .int .i64 c] 23)
  exact ⟨_, rfl, lit_Vg _ _ (w.heap.size + 1) (by simp) [27, 91, 50, 48, 49, 126] _ _ z1.size (by simp), z1.alloc z1.size _⟩
set_option maxHeartbeats 1000000 in
set_option maxRecDepth 100000 in
theorem ref_one (j : Nat) (c : Int) (hj : j < 16) (h0 : j ≠ 0) (h3 : j ≠ 3) (h13 : j ≠ 13) (h14 : j ≠ 14) (w : World) : RefOk j c w [ref08L.getD j 0] := by
  unfold RefOk
  have k0 : ((j : Int) == 0) = false := by simp; omega
  have k3 : ((j : Int) == 3) = false := by simp; omega
  have k13 : ((j : Int) == 13) = false := by simp; omega
  have k14 : ((j : Int) == 14) = false := by simp; omega
  have hlt : (j : Int) < 16 := by omega
  have hle : (0 : Int) ≤ j := by omega
  clear h0 h3 h13 h14 hj
  go_enter Tryd.func20, Tryd.ntmps20
  go_wp2_with (fail)
  go_ret
  have z1 := (Below.refl w.heap.size w).alloc (Nat.le_refl _) (.cells #[.int .i64 j, .int .i64 c] 23)
  exact ⟨_, rfl, lit_sub _ _ (w.heap.size + 1) j (16 - j) (by simp) ref08L _ _ z1.size (by show j < 16; omega) (by omega), z1.alloc z1.size _⟩

theorem ref08_Bytes.calls (a0_0 : Int) (a0_1 : Int) (r : List Int) (w : World) (h : ref08_Bytes.f a0_0 a0_1 = some r) :
    Calls Tryd.prog 20 #[.agg #[.int .i64 a0_0, .int .i64 a0_1]] w fun e w' => ∃ v0_ : Value, e = .returned v0_ ∧ Kd.V (Kd.int .u8) 5 w' w.heap.size (fun k_ => w.heap.size ≤ k_) v0_ r ∧ Below w.heap.size w w' := by
  show RefOk a0_0 a0_1 w r
  unfold ref08_Bytes.f at h
  by_cases h0 : a0_0 = 0
  · subst h0; rw [if_pos rfl] at h; exact ref_0 _ _ _ h
  · rw [if_neg h0] at h
    by_cases h3 : a0_0 = 3
    · subst h3; rw [if_pos rfl] at h; obtain rfl := Option.some.inj h; exact ref_3 _ _
    · rw [if_neg h3] at h
      by_cases h13 : a0_0 = 13
      · subst h13; rw [if_pos rfl] at h; obtain rfl := Option.some.inj h; exact ref_13 _ _
      · rw [if_neg h13] at h
        by_cases h14 : a0_0 = 14
        · subst h14; rw [if_pos rfl] at h; obtain rfl := Option.some.inj h; exact ref_14 _ _
        · rw [if_neg h14] at h
          by_cases hr : 0 ≤ a0_0 ∧ a0_0 < 16
          · rw [if_pos hr] at h
            obtain rfl := Option.some.inj h
            have := ref_one a0_0.toNat a0_1 (by omega) (by omega) (by omega) (by omega) (by omega) w
            rw [show ((a0_0.toNat : Nat) : Int) = a0_0 by omega] at this
            exact this
          · rw [if_neg hr] at h; cases h

end Go.Proofs.YtanlgkmijegefaaDoor.Hand
