/- strconv.ParseUint (16, 32) and (10, 8), attrs.flag. -/
import Derived.Test.YtbiogabekhegaaaGreatDoorHandText06
import Derived.Test.YtbiogabekhegaaaGreatDoorHandParse16
namespace Go.Proofs.YtbiogabekhegaaaGreatDoor.Hand
open Go.RowKit Go.Proofs.YtbiogabekhegaaaGreatDoorW.PrintWords Go.Proofs.YtbiogabekhegaaaGreatDoorW.PrintLast
set_option linter.unusedVariables false
set_option linter.unusedSimpArgs false

/-- An error's variable holds nothing but an interface value. -/
def ErrIn (w : World) (g : Nat) : Prop := ∃ ev, w.cell? ⟨g, 0, none⟩ = some ev ∧ (ev = .nilIface ∨ ∃ te pe, ev = .iface te pe)
theorem ErrIn.below {w W : World} {g : Nat} (h : ErrIn w g) (hb : Below w.heap.size w W) : ErrIn W g := by
  obtain ⟨ev, h1, h2⟩ := h
  exact ⟨ev, cell_stays h1 hb, h2⟩
/-- The world holds what attrs asks of it. -/
structure TabA (w : World) : Prop where
  tt : TabT w
  mx : ∃ m, w.cell? ⟨1, 0, none⟩ = some (.int .i64 m)
  es : ErrIn w 3
  er : ErrIn w 4
theorem TabA.below {w W : World} (h : TabA w) (hb : Below w.heap.size w W) : TabA W :=
  ⟨h.tt.below hb, by obtain ⟨m, hm⟩ := h.mx; exact ⟨m, cell_stays hm hb⟩, h.es.below hb, h.er.below hb⟩

theorem p16_err : ∀ (l : List UInt8) (acc : Nat), acc ≤ 4294967295 → (p16 acc l).1 ≤ 4294967295 ∧ ((p16 acc l).2 = 0 ∨ (p16 acc l).2 = 1 ∨ (p16 acc l).2 = 2)
  | [], acc, h => ⟨h, .inl rfl⟩
  | c :: r, acc, h => by
    unfold p16
    split
    · split
      · exact ⟨Nat.le_refl _, .inr (.inl rfl)⟩
      · exact p16_err r _ (by omega)
    · exact ⟨Nat.zero_le _, .inr (.inr rfl)⟩
def r16 (t : ByteArray) : Nat × Int := if t.size = 0 then (0, 2) else p16 0 t.data.toList
theorem r16_err (t : ByteArray) : (r16 t).1 ≤ 4294967295 ∧ ((r16 t).2 = 0 ∨ (r16 t).2 = 1 ∨ (r16 t).2 = 2) := by
  unfold r16
  split
  · exact ⟨Nat.zero_le _, .inr (.inr rfl)⟩
  · exact p16_err _ _ (Nat.zero_le _)
theorem in16 (t : ByteArray) (ht : t.size ≤ 281474976710656) (w : World) :
    Calls Tryz.prog 79 #[.string t, .int .i64 16, .int .i64 32] w fun e w' => e = .returned (.tuple #[.int .u64 (r16 t).1, errI (r16 t).2]) ∧ Below w.heap.size w w' := by
  unfold r16
  split
  · rename_i h
    have : t = ⟨#[]⟩ := ba_ext (List.eq_nil_of_length_eq_zero (by have := Lib.size_eq t; omega))
    subst this
    exact (parse16_empty w).mono (by rintro e w' ⟨rfl, rfl⟩; exact ⟨rfl, Below.refl _ _⟩)
  · rename_i h
    exact (parse16_in t h (by omega) w).mono (by rintro e w' ⟨rfl, rfl⟩; exact ⟨rfl, Lib.bytesWorld_below _ _ _⟩)

set_option maxHeartbeats 4000000 in
set_option maxRecDepth 100000 in
theorem pu16_ok (t : ByteArray) (ht : t.size ≤ 281474976710656) (h : (r16 t).2 = 0) (w : World) :
    Calls Tryz.prog 64 #[.string t, .int .i64 16, .int .i64 32] w fun e w' => e = .returned (.tuple #[.int .u64 (r16 t).1, .nilIface]) ∧ Below w.heap.size w w' := by
  have hI := in16 t ht w
  rw [h] at hI
  have hI : Calls Tryz.prog 79 #[.string t, .int .i64 16, .int .i64 32] w fun e w' => e = .returned (.tuple #[.int .u64 (r16 t).1, .nilIface]) ∧ Below w.heap.size w w' := hI
  clear h
  go_enter Tryz.func64, Tryz.ntmps64
  go_wp2_with (go_at_call 79; refine hI.mono ?_; rintro e W1 ⟨rfl, hW⟩)
  go_wp2
  go_ret2
  exact ⟨rfl, hW⟩

set_option maxHeartbeats 4000000 in
set_option maxRecDepth 100000 in
theorem pu16_bad (t : ByteArray) (ht : t.size ≤ 281474976710656) (h : (r16 t).2 ≠ 0) (w : World) (HT : TabA w) :
    Calls Tryz.prog 64 #[.string t, .int .i64 16, .int .i64 32] w fun e w' => ∃ N, e = .returned (.tuple #[.int .u64 (r16 t).1, .iface 139 (.pointer (some ⟨N, 0, none⟩))]) ∧ Below w.heap.size w w' := by
  have hI := in16 t ht w
  rcases (r16_err t).2 with h0 | h1 | h1
  · exact absurd h0 h
  · obtain ⟨ev, hv, hev⟩ := HT.er
    rw [h1] at hI
    have hI : Calls Tryz.prog 79 #[.string t, .int .i64 16, .int .i64 32] w fun e w' => e = .returned (.tuple #[.int .u64 (r16 t).1, .iface 136 (.int .i64 1)]) ∧ Below w.heap.size w w' := hI
    clear h h1
    go_enter Tryz.func64, Tryz.ntmps64
    go_wp2_with (go_at_call 79; refine hI.mono ?_)
    rintro e W1 ⟨rfl, hW⟩
    have hv1 := cell_stays hv hW
    go_wp2_with (go_at_call 80; refine (Tryz.strconv_toError_range ⟨#[80, 97, 114, 115, 101, 85, 105, 110, 116]⟩ t 16 32 ev _ ht ?_ hev).mono ?_)
    · exact hv1
    rintro e W2 ⟨N, rfl, _, _, h3⟩
    go_wp2
    go_ret2
    exact ⟨N, rfl, hW.trans (h3.mono hW.size)⟩
  · obtain ⟨ev, hv, hev⟩ := HT.es
    rw [h1] at hI
    have hI : Calls Tryz.prog 79 #[.string t, .int .i64 16, .int .i64 32] w fun e w' => e = .returned (.tuple #[.int .u64 (r16 t).1, .iface 136 (.int .i64 2)]) ∧ Below w.heap.size w w' := hI
    clear h h1
    go_enter Tryz.func64, Tryz.ntmps64
    go_wp2_with (go_at_call 79; refine hI.mono ?_)
    rintro e W1 ⟨rfl, hW⟩
    have hv1 := cell_stays hv hW
    go_wp2_with (go_at_call 80; refine (Tryz.strconv_toError_syntax ⟨#[80, 97, 114, 115, 101, 85, 105, 110, 116]⟩ t 16 32 ev _ ht ?_ hev).mono ?_)
    · exact hv1
    rintro e W2 ⟨N, rfl, _, _, h3⟩
    go_wp2
    go_ret2
    exact ⟨N, rfl, hW.trans (h3.mono hW.size)⟩

/-- What ParseUint to the base 10 at 8 bits answers, its error aside; and whether there is none. -/
def d8 (t : ByteArray) : Nat := match Lib.parseUintB 8 t.data.toList with | .ok u => u | .range => 255 | _ => 0
def d8ok (t : ByteArray) : Bool := match Lib.parseUintB 8 t.data.toList with | .ok _ => true | _ => false
theorem d8_lt (t : ByteArray) : d8 t < 256 := by
  unfold d8
  split
  · rename_i u h
    unfold Lib.parseUintB at h
    split at h
    · cases h
    · have := Lib.parseUintM_le _ _ _ _ (Nat.zero_le _) h
      omega
  · omega
  · omega
theorem pu8_ok (t : ByteArray) (ht : t.size ≤ 281474976710656) (h : d8ok t = true) (w : World) :
    Calls Tryz.prog 64 #[.string t, .int .i64 10, .int .i64 8] w fun e w' => e = .returned (.tuple #[.int .u64 (d8 t), .nilIface]) ∧ Below w.heap.size w w' := by
  unfold d8ok at h
  unfold d8
  split at h
  · rename_i u hu
    simp only [hu]
    refine (Tryz.strconv_ParseUint_10_at8_ok t (by omega) u hu w).mono ?_
    rintro e w' ⟨rfl, hw⟩
    refine ⟨rfl, ?_⟩
    rcases hw with rfl | rfl
    · exact Below.refl _ _
    · exact Lib.bytesWorld_below _ _ _
  · exact absurd h (by decide)
theorem pu8_bad (t : ByteArray) (ht : t.size ≤ 281474976710656) (h : d8ok t = false) (w : World) (HT : TabA w) :
    Calls Tryz.prog 64 #[.string t, .int .i64 10, .int .i64 8] w fun e w' => ∃ N, e = .returned (.tuple #[.int .u64 (d8 t), .iface 139 (.pointer (some ⟨N, 0, none⟩))]) ∧ Below w.heap.size w w' := by
  by_cases hs : isSyn (Lib.parseUintB 8 t.data.toList) = true
  · obtain ⟨ev, hv, hev⟩ := HT.es
    refine (Tryz.strconv_ParseUint_10_at8_syntax t ht hs ev w hv hev).mono ?_
    rintro e w' ⟨N, rfl, _, _, hb⟩
    refine ⟨N, ?_, hb⟩
    unfold d8
    revert hs
    cases Lib.parseUintB 8 t.data.toList <;> simp [isSyn]
  · unfold d8ok at h
    unfold d8
    split at h
    · exact absurd h (by decide)
    · rename_i hno
      cases hu : Lib.parseUintB 8 t.data.toList with
      | ok u => exact absurd hu (hno u)
      | range =>
        obtain ⟨ev, hv, hev⟩ := HT.er
        refine (Tryz.strconv_ParseUint_10_at8_range t ht hu ev w hv hev).mono ?_
        rintro e w' ⟨N, rfl, _, _, hb⟩
        exact ⟨N, rfl, hb⟩
      | _ =>
        rw [hu] at hs
        exact absurd rfl hs

def namesFL : List ByteArray := nameL.map (fun l => ⟨l.toArray⟩)
/-- attrs.flag: of a name's number, or of the digits behind an x. -/
def hexOf (s : ByteArray) : ByteArray := ⟨(Lib.trimPrefix s.data.toList [120]).toArray⟩
def flagV (s : ByteArray) : Nat × Bool :=
  if 0 ≤ Lib.idxOfS namesFL s then (2 ^ (Lib.idxOfS namesFL s).toNat, true)
  else ((r16 (hexOf s)).1, Lib.hasPrefix s.data.toList [120] && decide ((r16 (hexOf s)).2 = 0))

theorem idxFrom_range (x : ByteArray) : ∀ (zs : List ByteArray) (i : Nat), Lib.idxFromS zs x i = -1 ∨ ∃ j : Nat, j < zs.length ∧ Lib.idxFromS zs x i = ((i + j : Nat) : Int)
  | [], i => .inl rfl
  | z :: zs, i => by
    unfold Lib.idxFromS
    split
    · exact .inr ⟨0, by simp, by simp⟩
    · rcases idxFrom_range x zs (i + 1) with h | ⟨j, h1, h2⟩
      · exact .inl h
      · exact .inr ⟨j + 1, by simpa using h1, by rw [h2]; congr 1; omega⟩
theorem idx_range (s : ByteArray) : Lib.idxOfS namesFL s = -1 ∨ ∃ j : Nat, j < 7 ∧ Lib.idxOfS namesFL s = (j : Int) := by
  rcases idxFrom_range s namesFL 0 with h | ⟨j, h1, h2⟩
  · exact .inl h
  · exact .inr ⟨j, h1, by rw [Lib.idxOfS, h2]; congr 1; omega⟩
theorem flagV_lt (s : ByteArray) : (flagV s).1 ≤ 4294967295 := by
  unfold flagV
  split
  · rename_i h
    rcases idx_range s with h1 | ⟨j, h1, h2⟩
    · omega
    · show 2 ^ (Lib.idxOfS namesFL s).toNat ≤ _
      rw [h2, Int.toNat_natCast]
      have : 2 ^ j ≤ 2 ^ 7 := Nat.pow_le_pow_right (by omega) (by omega)
      omega
  · exact (r16_err _).1

theorem index_ok (s : ByteArray) (w : World) (HT : TabA w) :
    Calls Tryz.prog 77 #[.slice (some ⟨0, 0, none⟩) 7 7, .string s] w fun e w' => e = .returned (.int .i64 (Lib.idxOfS namesFL s)) ∧ w' = w := by
  refine (Tryz.slices_Index_string 0 0 7 7 namesFL s w (by decide) (by omega) ?_).mono fun e w' h => h
  intro j hj
  rw [Nat.zero_add]
  have hj' : j < 7 := hj
  refine (HT.tt.nm j hj').trans ?_
  obtain rfl | rfl | rfl | rfl | rfl | rfl | rfl : j = 0 ∨ j = 1 ∨ j = 2 ∨ j = 3 ∨ j = 4 ∨ j = 5 ∨ j = 6 := by omega
  all_goals rfl
set_option maxHeartbeats 4000000 in
set_option maxRecDepth 100000 in
theorem flag_name (s : ByteArray) (j : Nat) (hj : j < 7) (hi : Lib.idxOfS namesFL s = (j : Int)) (w : World) (HT : TabA w) :
    Calls Tryz.prog 63 #[.string s] w fun e w' => e = .returned (.tuple #[.int .u32 ((2 ^ j : Nat) : Int), .bool true]) ∧ Below w.heap.size w w' := by
  have HI := index_ok s w HT
  rw [hi] at HI
  clear hi
  obtain rfl | rfl | rfl | rfl | rfl | rfl | rfl : j = 0 ∨ j = 1 ∨ j = 2 ∨ j = 3 ∨ j = 4 ∨ j = 5 ∨ j = 6 := by omega
  all_goals
    go_enter Tryz.func63, Tryz.ntmps63
    go_wp2_with (go_at_call 77; refine HI.mono ?_; rintro e w' ⟨rfl, rfl⟩)
    go_wp2
    go_ret2
    exact ⟨rfl, Below.refl _ _⟩
set_option maxHeartbeats 4000000 in
set_option maxRecDepth 100000 in
theorem flag_hex (s : ByteArray) (hs : s.size ≤ 281474976710656) (hi : Lib.idxOfS namesFL s = -1) (w : World) (HT : TabA w) :
    Calls Tryz.prog 63 #[.string s] w fun e w' => e = .returned (.tuple #[.int .u32 ((r16 (hexOf s)).1 : Int), .bool (Lib.hasPrefix s.data.toList [120] && decide ((r16 (hexOf s)).2 = 0))]) ∧ Below w.heap.size w w' := by
  have HI := index_ok s w HT
  rw [hi] at HI
  clear hi
  have HC : ∀ W, Calls Tryz.prog 78 #[.string s, .string ⟨#[120]⟩] W fun e w' => e = .returned (.tuple #[.string (hexOf s), .bool (Lib.hasPrefix s.data.toList [120])]) ∧ w' = W := fun W => Tryz.strings_CutPrefix s ⟨#[120]⟩ W
  have hx : (hexOf s).size ≤ 281474976710656 := by
    refine Nat.le_trans ?_ hs
    have e1 : (hexOf s).size = (Lib.trimPrefix s.data.toList [120]).length := by simp [hexOf, ByteArray.size]
    have e2 := Lib.size_eq s
    rw [e1]
    unfold Lib.trimPrefix
    split
    · rw [List.length_drop]; omega
    · omega
  generalize Lib.hasPrefix s.data.toList [120] = hp at HC ⊢
  have hv := (r16_err (hexOf s)).1
  by_cases hok : (r16 (hexOf s)).2 = 0
  · have HP := fun W => pu16_ok (hexOf s) hx hok W
    rw [decide_eq_true hok]
    clear hok hx
    generalize (r16 (hexOf s)).1 = v at HP hv ⊢
    cases hp
    all_goals
      go_enter Tryz.func63, Tryz.ntmps63
      go_wp2_with (go_at_call 77; refine HI.mono ?_; rintro e w' ⟨rfl, rfl⟩)
      go_wp2_with (go_at_call 78; refine (HC _).mono ?_; rintro e w' ⟨rfl, rfl⟩)
      go_wp2_with (go_at_call 64; refine (HP _).mono ?_; rintro e w2 ⟨rfl, hb⟩)
      go_quiet (fail)
      go_wp2
      go_ret2
      exact ⟨rfl, pw_below_drewN hb _⟩
  · have HP := fun W HT => pu16_bad (hexOf s) hx hok W HT
    rw [decide_eq_false hok]
    clear hok hx
    generalize (r16 (hexOf s)).1 = v at HP hv ⊢
    cases hp
    all_goals
      go_enter Tryz.func63, Tryz.ntmps63
      go_wp2_with (go_at_call 77; refine HI.mono ?_; rintro e w' ⟨rfl, rfl⟩)
      go_wp2_with (go_at_call 78; refine (HC _).mono ?_; rintro e w' ⟨rfl, rfl⟩)
      go_wp2_with (go_at_call 64; refine (HP _ (by assumption)).mono ?_; rintro e w2 ⟨N, rfl, hb⟩)
      go_quiet (fail)
      go_wp2
      go_ret2
      exact ⟨rfl, pw_below_drewN hb _⟩

end Go.Proofs.YtbiogabekhegaaaGreatDoor.Hand
