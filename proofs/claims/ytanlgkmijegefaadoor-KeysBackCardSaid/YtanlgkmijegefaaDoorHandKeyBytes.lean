/- The contract of keys.Bytes, over keys.check and utf.Put as printed, and keys.chars by hand. -/
import Derived.Test.YtanlgkmijegefaaDoorHandKeyChars
import Derived.Test.YtanlgkmijegefaaDoorHandLit
import Derived.Test.YtanlgkmijegefaaDoorPcheckx1
import Derived.Maps.RangeWalk
import Derived.Lib.Hide
namespace Go.Proofs.YtanlgkmijegefaaDoor.Hand
open Go.RowKit Go.Maps Go.WideShapes Go.WideMaps Go.ChangeMaps Go.Proofs.YtanlgkmijegefaaDoorW.PrintWords Go.Proofs.YtanlgkmijegefaaDoorW.PrintLast Go.Proofs.YtanlgkmijegefaaDoor.Pcheck
set_option linter.unusedVariables false
set_option linter.unusedSimpArgs false

/-- The bytes of a key that is no character. -/
def bytesOf (a : Int) : List Int :=
  if a = 3 then [27, 91, 51, 126] else if a = 13 then [27, 91, 50, 48, 48, 126] else if a = 14 then [27, 91, 50, 48, 49, 126] else if a = 1 then [13] else if a = 2 then [127]
  else match insL.find? (fun t => t.2.2 == a) with
    | some t => [t.2.1]
    | none => [0]

def keys_Bytes.f (k : Nat) (a0_0 : Int) (a0_1 : Int) : Option (List Int × Int) :=
  (keys_check.f k a0_0 a0_1).bind fun e => if e = 0 then (if a0_0 = 0 then utf_Put.f k a0_1 else some (bytesOf a0_0, 0)) else some ([], e)
theorem keys_Bytes.mono : ∀ a0 a1 k, LeO (keys_Bytes.f k a0 a1) (keys_Bytes.f (k + 1) a0 a1) := by
  intro a0 a1 k
  unfold keys_Bytes.f
  repeat' first
      | (with_reducible exact keys_check.mono _ _ _)
      | (with_reducible exact utf_Put.mono _ _)
      | (with_reducible exact LeO.refl _)
      | (with_reducible exact LeO.none _)
      | (with_reducible refine LeO.ite ?_ ?_)
      | (with_reducible refine LeO.bind ?_ (fun _ => ?_))

/-- What a literal's block holds lies in that block alone. -/
theorem lit_V (W : World) (base : Nat) (xs : List Int) (e : TypeId) (fr : Nat × Nat) (hb : base ≤ W.heap.size) (hm : xs.length ≤ 9223372036854775807) :
    Kd.V (Kd.int .u8) 5 (W.alloc (.cells (xs.map (Value.int .u8)).toArray e fr)) base (fun k_ => base ≤ k_) (.slice (some ⟨W.heap.size, 0, none⟩) xs.length xs.length) xs := by
  refine Kd.V_mk (Nat.le_refl _) ?_
  intro W' hW
  have hblk : W'.heap[W.heap.size]? = some (.cells (xs.map (Value.int .u8)).toArray e fr) := by
    rw [hW W.heap.size hb (by simp)]
    exact heap_alloc_new W _
  refine Kd.C_of_reads (d := (0 : Int)) ⟨rfl, hm, fun _ => ⟨_, rfl, fun j hj => ?_⟩⟩
  rw [Go.Proofs.YtanlgkmijegefaaDoorW.PrintWords.add_plain]
  have hc := cell_of_row _ W.heap.size j _ e fr hblk
  rw [hc]
  simp [List.getElem?_eq_getElem hj, List.getD_eq_getElem?_getD]

def BytesOk (a c : Int) (w : World) (r1 : List Int) (r2 : Int) : Prop := Calls Tryd.prog 15 #[.agg #[.int .i64 a, .int .i64 c]] w fun e w' => ∃ v0_ : Value, e = .returned (.tuple #[v0_, .int .i64 r2]) ∧ Kd.V (Kd.int .u8) 5 w' w.heap.size (fun k_ => w.heap.size ≤ k_) v0_ r1 ∧ Below w.heap.size w w'
def ChkOk (a c e0 : Int) : Prop := ∀ w : World, Calls Tryd.prog 22 #[.agg #[.int .i64 a, .int .i64 c]] w fun e w' => e = .returned (.int .i64 e0) ∧ Below w.heap.size w w'

set_option maxHeartbeats 1000000 in
set_option maxRecDepth 100000 in
theorem bytes_err (a c e0 : Int) (he : (e0 != 0) = true) (hc : ChkOk a c e0) (w : World) : BytesOk a c w [] e0 := by
  unfold BytesOk
  go_enter Tryd.func15, Tryd.ntmps15
  go_wp2_with (fail)
  refine (hc _).mono ?_
  rintro e w1 ⟨rfl, b1⟩
  have B1 := Lib.hid b1
  clear b1
  go_wp2_with (fail)
  go_ret2
  have z1 : Below w.heap.size w w1 := ((Below.refl w.heap.size w).alloc (Nat.le_refl _) _).trans (B1.out.mono (by simp))
  exact ⟨_, rfl, Kd.V_nil _ _ _ _ _, z1⟩

/-- The key's box behind the check. -/
theorem box_after {w w1 : World} (o : Obj) (b1 : Below (w.alloc o).heap.size (w.alloc o) w1) : w1.heap[w.heap.size]? = some o := by
  rw [b1.block w.heap.size (by simp)]
  exact heap_alloc_new w o

set_option maxHeartbeats 1000000 in
set_option maxRecDepth 100000 in
theorem bytes_3 (c : Int) (hc : ChkOk 3 c 0) (w : World) : BytesOk 3 c w [27, 91, 51, 126] 0 := by
  unfold BytesOk
  go_enter Tryd.func15, Tryd.ntmps15
  go_wp2_with (fail)
  refine (hc _).mono ?_
  rintro e w1 ⟨rfl, b1⟩
  have hblk := box_after _ b1
  have B1 := Lib.hid b1
  clear b1
  have hcz := (blk_cell hblk 0).trans rfl
  have hfz := blk_frozen hblk 0
  clear hblk
  have kc := fun (W : World) (C : Array Value) (n c : Nat) => Lib.run_convert_bytes_const (P := Tryd.prog) W 36 5 C n c Tryd.underlying36 Tryd.underlying5
  go_wp2_with (fail)
  go_ret2
  have z1 : Below w.heap.size w w1 := ((Below.refl w.heap.size w).alloc (Nat.le_refl _) _).trans (B1.out.mono (by simp))
  exact ⟨_, rfl, lit_V _ _ [27, 91, 51, 126] _ _ z1.size (by simp), z1.alloc z1.size _⟩

set_option maxHeartbeats 1000000 in
set_option maxRecDepth 100000 in
theorem bytes_13 (c : Int) (hc : ChkOk 13 c 0) (w : World) : BytesOk 13 c w [27, 91, 50, 48, 48, 126] 0 := by
  unfold BytesOk
  go_enter Tryd.func15, Tryd.ntmps15
  go_wp2_with (fail)
  refine (hc _).mono ?_
  rintro e w1 ⟨rfl, b1⟩
  have hblk := box_after _ b1
  have B1 := Lib.hid b1
  clear b1
  have hcz := (blk_cell hblk 0).trans rfl
  have hfz := blk_frozen hblk 0
  clear hblk
  have kc := fun (W : World) (C : Array Value) (n c : Nat) => Lib.run_convert_bytes_const (P := Tryd.prog) W 36 5 C n c Tryd.underlying36 Tryd.underlying5
  go_wp2_with (fail)
  go_ret2
  have z1 : Below w.heap.size w w1 := ((Below.refl w.heap.size w).alloc (Nat.le_refl _) _).trans (B1.out.mono (by simp))
  exact ⟨_, rfl, lit_V _ _ [27, 91, 50, 48, 48, 126] _ _ z1.size (by simp), z1.alloc z1.size _⟩

set_option maxHeartbeats 1000000 in
set_option maxRecDepth 100000 in
theorem bytes_14 (c : Int) (hc : ChkOk 14 c 0) (w : World) : BytesOk 14 c w [27, 91, 50, 48, 49, 126] 0 := by
  unfold BytesOk
  go_enter Tryd.func15, Tryd.ntmps15
  go_wp2_with (fail)
  refine (hc _).mono ?_
  rintro e w1 ⟨rfl, b1⟩
  have hblk := box_after _ b1
  have B1 := Lib.hid b1
  clear b1
  have hcz := (blk_cell hblk 0).trans rfl
  have hfz := blk_frozen hblk 0
  clear hblk
  have kc := fun (W : World) (C : Array Value) (n c : Nat) => Lib.run_convert_bytes_const (P := Tryd.prog) W 36 5 C n c Tryd.underlying36 Tryd.underlying5
  go_wp2_with (fail)
  go_ret2
  have z1 : Below w.heap.size w w1 := ((Below.refl w.heap.size w).alloc (Nat.le_refl _) _).trans (B1.out.mono (by simp))
  exact ⟨_, rfl, lit_V _ _ [27, 91, 50, 48, 49, 126] _ _ z1.size (by simp), z1.alloc z1.size _⟩

set_option maxHeartbeats 1000000 in
set_option maxRecDepth 100000 in
theorem bytes_1 (c : Int) (hc : ChkOk 1 c 0) (w : World) : BytesOk 1 c w [13] 0 := by
  unfold BytesOk
  go_enter Tryd.func15, Tryd.ntmps15
  go_wp2_with (fail)
  refine (hc _).mono ?_
  rintro e w1 ⟨rfl, b1⟩
  have hblk := box_after _ b1
  have B1 := Lib.hid b1
  clear b1
  have hcz := (blk_cell hblk 0).trans rfl
  have hfz := blk_frozen hblk 0
  clear hblk
  go_wp2_with (fail)
  go_ret2
  have z1 : Below w.heap.size w w1 := ((Below.refl w.heap.size w).alloc (Nat.le_refl _) _).trans (B1.out.mono (by simp))
  exact ⟨_, rfl, lit_V _ _ [13] _ _ z1.size (by simp), z1.alloc z1.size _⟩

set_option maxHeartbeats 1000000 in
set_option maxRecDepth 100000 in
theorem bytes_2 (c : Int) (hc : ChkOk 2 c 0) (w : World) : BytesOk 2 c w [127] 0 := by
  unfold BytesOk
  go_enter Tryd.func15, Tryd.ntmps15
  go_wp2_with (fail)
  refine (hc _).mono ?_
  rintro e w1 ⟨rfl, b1⟩
  have hblk := box_after _ b1
  have B1 := Lib.hid b1
  clear b1
  have hcz := (blk_cell hblk 0).trans rfl
  have hfz := blk_frozen hblk 0
  clear hblk
  go_wp2_with (fail)
  go_ret2
  have z1 : Below w.heap.size w w1 := ((Below.refl w.heap.size w).alloc (Nat.le_refl _) _).trans (B1.out.mono (by simp))
  exact ⟨_, rfl, lit_V _ _ [127] _ _ z1.size (by simp), z1.alloc z1.size _⟩

set_option maxHeartbeats 1000000 in
set_option maxRecDepth 100000 in
theorem bytes_0 (k : Nat) (c : Int) (r1 : List Int) (r2 : Int) (hp : utf_Put.f k c = some (r1, r2)) (hc : ChkOk 0 c 0) (w : World) : BytesOk 0 c w r1 r2 := by
  unfold BytesOk
  go_enter Tryd.func15, Tryd.ntmps15
  go_wp2_with (fail)
  refine (hc _).mono ?_
  rintro e w1 ⟨rfl, b1⟩
  have hblk := box_after _ b1
  have B1 := Lib.hid b1
  clear b1
  have hcz := (blk_cell hblk 0).trans rfl
  have hfz := blk_frozen hblk 0
  have hcz1 := (blk_cell hblk 1).trans rfl
  have hfz1 := blk_frozen hblk 1
  clear hblk
  have HP := Lib.hid (utf_Put.calls k c r1 r2 w1 hp)
  clear hp
  go_wp2_with (fail)
  refine HP.out.mono ?_
  rintro e w2 ⟨v, rfl, hv, b2⟩
  have B2 := Lib.hid b2
  have HV := Lib.hid hv
  clear b2 hv
  go_wp2_with (fail)
  go_ret2
  have z1 : Below w.heap.size w w1 := ((Below.refl w.heap.size w).alloc (Nat.le_refl _) _).trans (B1.out.mono (by simp))
  exact ⟨_, rfl, Kd.V_mono (Kd.R_V (Kd.R_bound HV.out)) (fun k_ hk => Nat.le_trans z1.size hk.2.1), z1.trans (B2.out.mono z1.size)⟩

set_option maxHeartbeats 2000000 in
set_option maxRecDepth 100000 in
theorem bytes_loop (a c : Int) (b0 : (a == 0) = false) (b3 : (a == 3) = false) (b13 : (a == 13) = false) (b14 : (a == 14) = false) (b1 : (a == 1) = false) (b2 : (a == 2) = false) (r : List Int)
    (hfound : ∀ x : Int, charKind x = some a → [x % 256] = r) (hnone : (∀ x : Int, charKind x ≠ some a) → [0] = r) (hc : ChkOk a c 0) (w : World) : BytesOk a c w r 0 := by
  unfold BytesOk
  go_enter Tryd.func15, Tryd.ntmps15
  go_wp2_with (fail)
  refine (hc _).mono ?_
  rintro e w1 ⟨rfl, bl1⟩
  have hblk := box_after _ bl1
  have z1 := Lib.hid (show Below w.heap.size w w1 from ((Below.refl w.heap.size w).alloc (Nat.le_refl _) _).trans (bl1.mono (by simp)))
  have HBK := Lib.hid hblk
  have hcz := (blk_cell hblk 0).trans rfl
  have hfz := blk_frozen hblk 0
  clear hblk bl1
  go_wp2_with (fail)
  refine (chars_any w1).mono ?_
  rintro e w2 ⟨B, n, D, rfl, hB, hown, hn, hhas, hat, bl2⟩
  have z2 := Lib.hid (show Below w.heap.size w w2 from z1.out.trans (bl2.mono z1.out.size))
  have HBK2 := Lib.hid (show w2.heap[w.heap.size]? = _ from (bl2.block w.heap.size (by
    have := HBK.out
    exact (Array.getElem?_eq_some_iff.1 this).1)).trans HBK.out)
  clear hcz hfz bl2
  go_wp2_with (first
    | (at_range; refine wpList_range_own _ rfl _ 61 rfl 3 3 intKey Tryd.underlying61 _ B n _ rfl hown ?_; intro w3 hrg3 hg3 hs3)
    | go_in)
  have z3 := Lib.hid (show Below w.heap.size w w3 from z2.out.grown hg3 z2.out.size (fun k hk => by cases hk))
  have HBK3 := Lib.hid (show w3.heap[w.heap.size]? = _ from (hg3.block w.heap.size (Array.getElem?_eq_some_iff.1 HBK2.out).1 (fun e => by cases e)).trans HBK2.out)
  have hr2 := Lib.hid (show w.heap.size < w2.heap.size from (Array.getElem?_eq_some_iff.1 HBK2.out).1)
  have hB2 := Lib.hid (show w.heap.size < B from Nat.lt_of_lt_of_le (Array.getElem?_eq_some_iff.1 HBK.out).1 hB)
  go_frame
  go_loopw [5] (fun _ wr => ∃ (left : Lit → Bool) (cnt : Nat), wr.ranges Tryd.prog 3 (plainElem Tryd.prog 3) B w2.heap.size n D left cnt ∧ Aside0 (Below w.heap.size w wr) ∧ Aside0 (wr.heap[w.heap.size]? = some (.cells #[.int .i64 a, .int .i64 c] 23)) ∧
      Aside0 (∀ x : Int, charKind x = some a → left (.int .i64 x) = true) ∧ Aside0 (∀ kl, left kl = true → Maps.has D kl = true))
    (fun _ wr => wr.rangeLeft B w2.heap.size)
  case atStart => exact ⟨_, _, hrg3, ⟨z3.out⟩, ⟨HBK3.out⟩, ⟨fun x hx => by rw [hhas, hx]; rfl⟩, ⟨fun kl h => h⟩⟩
  case round =>
    obtain ⟨left, cnt, hrg, hz, hbk, hleft, hsub⟩ := hrel
    go_wp2_with (first
      | (at_next; refine wpList_next_ranges_ii _ rfl _ rfl 3 3 .i64 .i64 intKey Tryd.underlying3 Tryd.underlying3 B w2.heap.size n _ _ _ rfl hrg ?_ ?_)
      | go_in)
    · -- nothing is left
      intro _ hl0
      go_wp2_with (fail)
      go_ret2
      have hr0 : [0] = r := hnone (fun x hx => by have := hleft.out x hx; rw [hl0] at this; cases this)
      subst hr0
      exact ⟨_, rfl, lit_V _ _ [0] _ _ hz.out.size (by simp), hz.out.alloc hz.out.size _⟩
    · -- an entry has come
      intro x c1 w4 cnt1 hwx hwc hlx hat1 hrg1 hlt hg1 hs1 hen
      have hz4 := Aside0.mk (show Below w.heap.size w w4 from hz.out.grown hg1 hz.out.size (fun k hk => by cases hk; exact Nat.le_of_lt hr2.out))
      have hbk4 := Aside0.mk (show w4.heap[w.heap.size]? = _ from (hg1.block w.heap.size (Array.getElem?_eq_some_iff.1 hbk.out).1 (fun e => by injection e with e; have := hr2.out; omega)).trans hbk.out)
      have hkx : charKind x = some c1 := by
        have h1 := hsub.out _ hlx
        rw [hhas] at h1
        obtain ⟨v, hv⟩ := Option.isSome_iff_exists.1 h1
        have h2 := (hat x v hv (.map [])).symm.trans (hat1 (.map []))
        rw [hv]
        injection h2 with h2
        injection h2 with _ h2
        rw [h2]
      have hcz := (blk_cell hbk4.out 0).trans rfl
      have hfz := blk_frozen hbk4.out 0
      by_cases hca : c1 = a
      · subst hca
        have hee : (c1 == c1) = true := by simp
        have hr0 : [x % 256] = r := hfound x hkx
        subst hr0
        go_wp2_with (fail)
        go_ret2
        have q := lit_V w4 w.heap.size [x % 256] 5 (0, 0) hz4.out.size (by simp)
        rw [hs1] at q
        exact ⟨_, rfl, q, hz4.out.alloc hz4.out.size _⟩
      · have hee : (c1 == a) = false := by simpa using hca
        go_wp2_with (fail)
        go_roundw
        case rel => exact ⟨_, cnt1, hrg1, hz4, hbk4, ⟨fun y hy => by
          rw [hleft.out y hy, Bool.true_and, Bool.not_eq_true']
          cases hs : (Lit.int .i64 y).sameKey (.int .i64 x) with
          | false => rfl
          | true =>
            have e := WideAt.sameKey_eq hs
            injection e with _ e
            subst e
            rw [hkx] at hy
            injection hy with hy
            exact absurd hy hca⟩, ⟨fun kl h => hsub.out kl (by simp only [Bool.and_eq_true] at h; exact h.1)⟩⟩
        case measure => rw [hrg1.left_eq, hrg.left_eq]; exact hlt

/-- What the kinds that no constant answers are told by. -/
theorem bytesOf_found (a : Int) (b3 : (a == 3) = false) (b13 : (a == 13) = false) (b14 : (a == 14) = false) (b1 : (a == 1) = false) (b2 : (a == 2) = false) (x : Int) (hx : charKind x = some a) : [x % 256] = bytesOf a := by
  unfold charKind at hx
  rw [Option.map_eq_some_iff] at hx
  obtain ⟨t, ht, rfl⟩ := hx
  have hm := List.mem_of_find?_eq_some ht
  have hk := List.find?_some ht
  have hk2 : t.2.1 = x := by simpa only [beq_iff_eq] using hk
  subst hk2
  have key : ∀ t ∈ insL, (t.2.2 == 3) = false → (t.2.2 == 13) = false → (t.2.2 == 14) = false → (t.2.2 == 1) = false → (t.2.2 == 2) = false → [t.2.1 % 256] = bytesOf t.2.2 := by decide
  exact key t hm b3 b13 b14 b1 b2
theorem bytesOf_none (a : Int) (b3 : (a == 3) = false) (b13 : (a == 13) = false) (b14 : (a == 14) = false) (b1 : (a == 1) = false) (b2 : (a == 2) = false) (hx : ∀ x : Int, charKind x ≠ some a) : [0] = bytesOf a := by
  simp only [beq_eq_false_iff_ne, ne_eq] at b3 b13 b14 b1 b2
  unfold bytesOf
  rw [if_neg b3, if_neg b13, if_neg b14, if_neg b1, if_neg b2]
  cases h : insL.find? (fun t => t.2.2 == a) with
  | none => rfl
  | some t =>
    exfalso
    have hm := List.mem_of_find?_eq_some h
    have hk := List.find?_some h
    have hk2 : t.2.2 = a := by simpa only [beq_iff_eq] using hk
    have key : ∀ t ∈ insL, charKind t.2.1 = some t.2.2 := by decide
    exact hx t.2.1 (by rw [key t hm, hk2])

theorem keys_Bytes.calls (k : Nat) (a0_0 : Int) (a0_1 : Int) (r1 : List Int) (r2 : Int) (w : World) (h : keys_Bytes.f k a0_0 a0_1 = some (r1, r2)) :
    Calls Tryd.prog 15 #[.agg #[.int .i64 a0_0, .int .i64 a0_1]] w fun e w' => ∃ v0_ : Value, e = .returned (.tuple #[v0_, .int .i64 r2]) ∧ Kd.V (Kd.int .u8) 5 w' w.heap.size (fun k_ => w.heap.size ≤ k_) v0_ r1 ∧ Below w.heap.size w w' := by
  show BytesOk a0_0 a0_1 w r1 r2
  unfold keys_Bytes.f at h
  obtain ⟨e0, hc0, h⟩ := Option.bind_eq_some_iff.mp h
  have hc : ChkOk a0_0 a0_1 e0 := fun w' => keys_check.calls k a0_0 a0_1 e0 w' hc0
  by_cases he : e0 = 0
  · subst he
    rw [if_pos rfl] at h
    by_cases h0 : a0_0 = 0
    · subst h0
      rw [if_pos rfl] at h
      exact bytes_0 k a0_1 r1 r2 h hc w
    · rw [if_neg h0] at h
      have hp := Option.some.inj h
      injection hp with e1 e2
      subst e1 e2
      by_cases h3 : a0_0 = 3
      · subst h3; exact bytes_3 _ hc w
      by_cases h13 : a0_0 = 13
      · subst h13; exact bytes_13 _ hc w
      by_cases h14 : a0_0 = 14
      · subst h14; exact bytes_14 _ hc w
      by_cases h1 : a0_0 = 1
      · subst h1; exact bytes_1 _ hc w
      by_cases h2 : a0_0 = 2
      · subst h2; exact bytes_2 _ hc w
      have f0 := beq_eq_false_iff_ne.mpr h0
      have f3 := beq_eq_false_iff_ne.mpr h3
      have f13 := beq_eq_false_iff_ne.mpr h13
      have f14 := beq_eq_false_iff_ne.mpr h14
      have f1 := beq_eq_false_iff_ne.mpr h1
      have f2 := beq_eq_false_iff_ne.mpr h2
      exact bytes_loop a0_0 a0_1 f0 f3 f13 f14 f1 f2 _ (bytesOf_found a0_0 f3 f13 f14 f1 f2) (bytesOf_none a0_0 f3 f13 f14 f1 f2) hc w
  · rw [if_neg he] at h
    have hp := Option.some.inj h
    injection hp with e1 e2
    subst e1 e2
    exact bytes_err a0_0 a0_1 e0 (by simpa using he) hc w

end Go.Proofs.YtanlgkmijegefaaDoor.Hand
