/- attrs.Text and attrs.Read in the print's shape. -/
import Derived.Test.YtbiogabekhegaaaGreatDoorHandRead06
namespace Go.Proofs.YtbiogabekhegaaaGreatDoor.Hand
open Go.RowKit Go.Proofs.YtbiogabekhegaaaGreatDoorW.PrintWords Go.Proofs.YtbiogabekhegaaaGreatDoorW.PrintLast
set_option linter.unusedVariables false
set_option linter.unusedSimpArgs false

def inA (a b c : Int) : Bool := decide (0 ≤ a) && decide (a ≤ 4294967295) && decide (0 ≤ b) && decide (b ≤ 255) && decide (0 ≤ c) && decide (c ≤ 255)
theorem inA_iff (a b c : Int) : inA a b c = true ↔ 0 ≤ a ∧ a ≤ 4294967295 ∧ 0 ≤ b ∧ b ≤ 255 ∧ 0 ≤ c ∧ c ≤ 255 := by
  simp [inA]; omega
def textI (a b c : Int) : ByteArray := textV a.toNat b.toNat c.toNat
def attrs_Text.f (a0_0 a0_1 a0_2 : Int) : Option ByteArray := if inA a0_0 a0_1 a0_2 = true then some (textI a0_0 a0_1 a0_2) else none
theorem attrs_Text.calls (a0_0 a0_1 a0_2 : Int) (r : ByteArray) (w : World) (HT : TabA w) (h : attrs_Text.f a0_0 a0_1 a0_2 = some r) :
    Calls Tryz.prog 41 #[.agg #[.int .u32 a0_0, .int .u8 a0_1, .int .u8 a0_2]] w fun e w' => e = .returned (.string r) ∧ Below w.heap.size w w' := by
  unfold attrs_Text.f at h
  split at h
  · rename_i hi
    obtain ⟨h1, h2, h3, h4, h5, h6⟩ := (inA_iff _ _ _).1 hi
    obtain rfl := Option.some.inj h
    obtain ⟨a, rfl⟩ := Int.eq_ofNat_of_zero_le h1
    obtain ⟨b, rfl⟩ := Int.eq_ofNat_of_zero_le h3
    obtain ⟨c, rfl⟩ := Int.eq_ofNat_of_zero_le h5
    exact text_a a b c (by omega) (by omega) (by omega) w HT.tt
  · cases h

/-- What attrs.Read answers: flags, Min, Time, the error. -/
def readV (s : ByteArray) : Int × Int × Int × Int :=
  match pieces 32 s with
  | [p0, p1, p2] => if goodB s p0 p1 p2 = true then ((orL (pieces 43 p0) : Nat), (d8 p1 : Nat), (d8 p2 : Nat), 0) else (0, 0, 0, 8)
  | _ => (0, 0, 0, 8)
def attrs_Read.f (a0 : ByteArray) : Option (Int × Int × Int × Int) := if a0.size ≤ 100000 then some (readV a0) else none
theorem attrs_Read.calls (a0 : ByteArray) (r1 r2 r3 r4 : Int) (w : World) (HT : TabA w) (h : attrs_Read.f a0 = some (r1, r2, r3, r4)) :
    Calls Tryz.prog 43 #[.string a0] w fun e w' => e = .returned (.tuple #[.agg #[.int .u32 r1, .int .u8 r2, .int .u8 r3], .int .i64 r4]) ∧ Below w.heap.size w w' := by
  unfold attrs_Read.f at h
  split at h
  · rename_i hs
    have h := Option.some.inj h
    unfold readV at h
    split at h
    · rename_i p0 p1 p2 hp
      refine (read_walk a0 hs p0 p1 p2 hp w HT).mono ?_
      rintro e w' ⟨rfl, hb⟩
      refine ⟨?_, hb⟩
      unfold retV
      split at h
      · rename_i hg
        rw [if_pos hg]
        injection h with h1 h; injection h with h2 h; injection h with h3 h4
        subst h1; subst h2; subst h3; subst h4
        rfl
      · rename_i hg
        rw [if_neg hg]
        injection h with h1 h; injection h with h2 h; injection h with h3 h4
        subst h1; subst h2; subst h3; subst h4
        rfl
    · rename_i hp
      injection h with h1 h; injection h with h2 h; injection h with h3 h4
      subst h1; subst h2; subst h3; subst h4
      refine read_len a0 hs (fun hl => ?_) w HT
      obtain ⟨p0, p1, p2, e⟩ : ∃ p0 p1 p2, pieces 32 a0 = [p0, p1, p2] := by
        match h3 : pieces 32 a0, hl with
        | [p0, p1, p2], _ => exact ⟨p0, p1, p2, rfl⟩
      exact hp p0 p1 p2 e
  · cases h

end Go.Proofs.YtbiogabekhegaaaGreatDoor.Hand
