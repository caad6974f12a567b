/- utf8.DecodeRune and utf8.FullRune in the print's shape. -/
import Derived.Test.YtmdeehblmkpddaaDoorHandFull
import Derived.Test.YtmdeehblmkpddaaDoorHandPlain
import Derived.Lib.DecodeN
namespace Go.Proofs.YtmdeehblmkpddaaDoor.Hand
open Go.RowKit Go.Proofs.YtmdeehblmkpddaaDoorW.PrintWords Go.Proofs.YtmdeehblmkpddaaDoorW.PrintLast
set_option linter.unusedVariables false
set_option linter.unusedSimpArgs false

/-- The world holds unicode/utf8's two tables. -/
def U8In (w : World) : Prop := Lib.Utf8Tabs 1 2 w
theorem cell_stays {W W' : World} {p : Addr} {v : Value} (h : W.cell? p = some v) (hb : Below W.heap.size W W') : W'.cell? p = some v := (hb.cell (World.block_lt_of_cell? W _ h)).trans h
theorem U8In.below {w W : World} (h : U8In w) (hb : Below w.heap.size w W) : U8In W :=
  ⟨fun c hc => cell_stays (h.1 c hc) hb, fun i hi => ⟨cell_stays (h.2 i hi).1 hb, cell_stays (h.2 i hi).2 hb⟩⟩

/-- Bytes, one at least. -/
def bytes1 (l : List Int) : Bool := !l.isEmpty && l.all fun x => decide (0 ≤ x) && decide (x ≤ 255)
theorem bytes1_iff (l : List Int) : bytes1 l = true ↔ l ≠ [] ∧ ∀ x ∈ l, 0 ≤ x ∧ x ≤ 255 := by
  unfold bytes1
  cases l <;> simp
/-- The i-th byte; 0: there is none. -/
def at0 (l : List Int) (i : Nat) : Nat := (l.getD i 0).toNat
def lookFull (n b0 b1 b2 : Nat) : Bool :=
  if Lib.firstT b0 % 8 ≤ n then true
  else if 1 < n ∧ (b1 < Lib.accLo (Lib.firstT b0 / 16) ∨ Lib.accHi (Lib.firstT b0 / 16) < b1) then true
  else if 2 < n ∧ (b2 < 128 ∨ 191 < b2) then true else false
def utf8_FullRune.f (l : List Int) : Option Bool := if bytes1 l = true then some (lookFull l.length (at0 l 0) (at0 l 1) (at0 l 2)) else none
def utf8_DecodeRune.f (l : List Int) : Option (Int × Int) := if bytes1 l = true then some (((Lib.decodeN l.length (at0 l 0) (at0 l 1) (at0 l 2) (at0 l 3)).1 : Int), ((Lib.decodeN l.length (at0 l 0) (at0 l 1) (at0 l 2) (at0 l 3)).2 : Int)) else none

theorem firstT_lt (b : Nat) : Lib.firstT b < 256 := by
  have := Lib.firstT_cases b
  omega
theorem and7 (x : Nat) (h : x < 256) : bits .and .u8 (x : Int) 7 = ((x % 8 : Nat) : Int) := by
  have := Go.u8_and_nat x 7 h (by omega)
  rw [Go.nat_mask3] at this
  exact this
theorem first_sz (b : Nat) : Lib.firstT b % 8 ≤ 4 ∧ Lib.firstT b / 16 < 16 := by
  have := Lib.firstT_cases b
  omega
theorem full_at (n b off cap b0 b1 b2 : Nat) (w : World) (hU : U8In w) (hn : 0 < n) (hm : (n : Int) ≤ 9223372036854775807) (hb0 : b0 < 256)
    (c0 : w.cell? ⟨b, off, none⟩ = some (.int .u8 b0)) (c1 : 1 < n → w.cell? ⟨b, off + 1, none⟩ = some (.int .u8 b1)) (c2 : 2 < n → w.cell? ⟨b, off + 2, none⟩ = some (.int .u8 b2)) :
    FullOk n b off cap w (lookFull n b0 b1 b2) := by
  have hx := hU.1 b0 hb0
  have hs := first_sz b0
  have ha := hU.2 (Lib.firstT b0 / 16) hs.2
  rw [Nat.mul_comm] at ha
  have h7 := and7 _ (firstT_lt b0)
  have hd : ((Lib.firstT b0 : Nat) : Int) / 16 = ((Lib.firstT b0 / 16 : Nat) : Int) := by omega
  unfold lookFull
  generalize hX : Lib.firstT b0 = x at *
  generalize hA : x / 16 = a at *
  generalize hS : x % 8 = sz at *
  generalize hL : Lib.accLo a = lo at *
  generalize hH : Lib.accHi a = hi at *
  by_cases h1 : sz ≤ n
  · rw [if_pos h1]
    exact full_true n b off cap b0 x sz w hn hm hb0 c0 hx h7 h1 (by omega)
  · rw [if_neg h1]
    obtain rfl | rfl | rfl : n = 1 ∨ n = 2 ∨ n = 3 := by omega
    · rw [if_neg (by omega), if_neg (by omega)]
      exact full_1 b off cap b0 x sz a lo hi w hb0 c0 hx h7 (by omega) (by omega) hd hs.2 ha.1 ha.2
    · have d1 := c1 (by omega)
      by_cases h2 : b1 < lo
      · rw [if_pos ⟨by omega, .inl h2⟩]
        exact full_2lo b off cap b0 x sz a lo hi b1 w hb0 c0 hx h7 (by omega) (by omega) hd hs.2 ha.1 ha.2 d1 h2
      · by_cases h3 : hi < b1
        · rw [if_pos ⟨by omega, .inr h3⟩]
          exact full_2hi b off cap b0 x sz a lo hi b1 w hb0 c0 hx h7 (by omega) (by omega) hd hs.2 ha.1 ha.2 d1 h2 h3
        · rw [if_neg (by omega), if_neg (by omega)]
          exact full_2ok b off cap b0 x sz a lo hi b1 w hb0 c0 hx h7 (by omega) (by omega) hd hs.2 ha.1 ha.2 d1 h2 h3
    · have d1 := c1 (by omega)
      have d2 := c2 (by omega)
      by_cases h2 : b1 < lo
      · rw [if_pos ⟨by omega, .inl h2⟩]
        exact full_3lo b off cap b0 x sz a lo hi b1 w hb0 c0 hx h7 (by omega) (by omega) hd hs.2 ha.1 ha.2 d1 h2
      · by_cases h3 : hi < b1
        · rw [if_pos ⟨by omega, .inr h3⟩]
          exact full_3hi b off cap b0 x sz a lo hi b1 w hb0 c0 hx h7 (by omega) (by omega) hd hs.2 ha.1 ha.2 d1 h2 h3
        · rw [if_neg (by omega)]
          by_cases h4 : b2 < 128
          · rw [if_pos ⟨by omega, .inl h4⟩]
            exact full_3b b off cap b0 x sz a lo hi b1 b2 w hb0 c0 hx h7 (by omega) (by omega) hd hs.2 ha.1 ha.2 d1 d2 h2 h3 h4
          · by_cases h5 : 191 < b2
            · rw [if_pos ⟨by omega, .inr h5⟩]
              exact full_3c b off cap b0 x sz a lo hi b1 b2 w hb0 c0 hx h7 (by omega) (by omega) hd hs.2 ha.1 ha.2 d1 d2 h2 h3 h4 h5
            · rw [if_neg (by omega)]
              exact full_3ok b off cap b0 x sz a lo hi b1 b2 w hb0 c0 hx h7 (by omega) (by omega) hd hs.2 ha.1 ha.2 d1 d2 h2 h3 h4 h5

/-- Where the bytes lie. -/
theorem cells_of_C {w : World} {A : Option Addr} {l : List Int} (hr : Kd.C (Kd.int .u8) w A l.length l) (h0 : 0 < l.length) :
    ∃ b off, A = some ⟨b, off, none⟩ ∧ (∀ j, j < l.length → w.cell? ⟨b, off + j, none⟩ = some (.int .u8 (l.getD j 0))) ∧ l.length ≤ 9223372036854775807 := by
  have hr := Kd.reads_of_C (d := (0 : Int)) hr
  obtain ⟨ad, rfl, hcell⟩ := hr.2.2 h0
  obtain ⟨b, off, sp⟩ := ad
  have q0 := hcell 0 h0
  have hsp : sp = none := by simpa [Addr.add] using World.cell?_spot q0
  subst hsp
  refine ⟨b, off, rfl, fun j hj => ?_, hr.2.1⟩
  have := hcell j hj
  rwa [Go.WideShapes.add_plain] at this
theorem at0_cast {l : List Int} (hb : ∀ x ∈ l, 0 ≤ x ∧ x ≤ 255) (j : Nat) (hj : j < l.length) : ((at0 l j : Nat) : Int) = l.getD j 0 ∧ at0 l j < 256 := by
  have hm : l.getD j 0 ∈ l := by
    rw [List.getD_eq_getElem?_getD, List.getElem?_eq_getElem hj]
    exact List.getElem_mem _
  have := hb _ hm
  unfold at0
  omega
theorem utf8_FullRune.calls (A0 : Option Addr) (c0 : Nat) (l0 : List Int) (r : Bool) (w : World) (hr0 : Kd.C (Kd.int .u8) w A0 l0.length l0) (hc0 : l0.length ≤ c0) (HU : U8In w) (h : utf8_FullRune.f l0 = some r) :
    Calls Tryd.prog 84 #[.slice A0 l0.length c0] w fun e w' => e = .returned (.bool r) ∧ Below w.heap.size w w' := by
  unfold utf8_FullRune.f at h
  by_cases hb : bytes1 l0 = true
  · rw [if_pos hb] at h
    obtain rfl := Option.some.inj h
    obtain ⟨hne, hb⟩ := (bytes1_iff l0).1 hb
    have hl : 0 < l0.length := List.length_pos_iff.2 hne
    obtain ⟨b, off, rfl, hc, hm⟩ := cells_of_C hr0 hl
    have a0 := at0_cast hb 0 hl
    refine full_at l0.length b off c0 (at0 l0 0) (at0 l0 1) (at0 l0 2) w HU hl (by omega) a0.2 ?_ (fun h1 => ?_) (fun h2 => ?_)
    · rw [a0.1]; exact hc 0 hl
    · rw [(at0_cast hb 1 h1).1]; exact hc 1 h1
    · rw [(at0_cast hb 2 h2).1]; exact hc 2 h2
  · rw [if_neg hb] at h
    cases h
theorem nums_get (l : List Int) (hb : ∀ x ∈ l, 0 ≤ x ∧ x ≤ 255) (j : Nat) : ((strOfNums l).get! j).toNat = at0 l j := by
  unfold strOfNums at0
  show ((l.map fun n => UInt8.ofNat n.toNat).toArray.getD j default).toNat = _
  rw [Array.getD_eq_getD_getElem?, List.getElem?_toArray, List.getElem?_map, List.getD_eq_getElem?_getD]
  by_cases hj : j < l.length
  · rw [List.getElem?_eq_getElem hj]
    have := hb _ (List.getElem_mem hj)
    simp
    omega
  · rw [List.getElem?_eq_none (by omega)]
    rfl
theorem nums_size (l : List Int) : (strOfNums l).size = l.length := by
  unfold strOfNums
  show (l.map fun n => UInt8.ofNat n.toNat).toArray.size = _
  simp
theorem utf8_DecodeRune.calls (A0 : Option Addr) (c0 : Nat) (l0 : List Int) (r1 r2 : Int) (w : World) (hr0 : Kd.C (Kd.int .u8) w A0 l0.length l0) (hc0 : l0.length ≤ c0) (HU : U8In w) (h : utf8_DecodeRune.f l0 = some (r1, r2)) :
    Calls Tryd.prog 72 #[.slice A0 l0.length c0] w fun e w' => e = .returned (.tuple #[.int .i32 r1, .int .i64 r2]) ∧ Below w.heap.size w w' := by
  unfold utf8_DecodeRune.f at h
  by_cases hb : bytes1 l0 = true
  · rw [if_pos hb] at h
    simp only [Option.some.injEq, Prod.mk.injEq] at h
    obtain ⟨rfl, rfl⟩ := h
    obtain ⟨hne, hb⟩ := (bytes1_iff l0).1 hb
    have hl : 0 < l0.length := List.length_pos_iff.2 hne
    obtain ⟨b, off, rfl, hc, hm⟩ := cells_of_C hr0 hl
    have key := Tryd.utf8_DecodeRune (strOfNums l0) b off c0 w HU (fun j hj => by
      rw [nums_size] at hj
      rw [nums_get l0 hb, (at0_cast hb j hj).1]
      exact hc j hj)
    have hd : Lib.decodeGo (strOfNums l0) = Lib.decodeN l0.length (at0 l0 0) (at0 l0 1) (at0 l0 2) (at0 l0 3) := by
      unfold Lib.decodeGo
      rw [if_neg (by rw [nums_size]; omega), Lib.decode_at, nums_get l0 hb, nums_get l0 hb, nums_get l0 hb, nums_get l0 hb, nums_size]
      rfl
    rw [nums_size, hd] at key
    exact key
  · rw [if_neg hb] at h
    cases h

end Go.Proofs.YtmdeehblmkpddaaDoor.Hand
