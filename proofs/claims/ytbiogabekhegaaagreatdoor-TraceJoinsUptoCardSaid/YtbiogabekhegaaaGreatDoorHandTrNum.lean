/- trace.number. -/
import Derived.Test.YtbiogabekhegaaaGreatDoorHandFlag06
import Derived.Lib.AtoiAll
import Derived.Lib.AtoiErrMem
import Derived.Deep.QuietTactic
import Derived.BigQuiet
namespace Go.Proofs.YtbiogabekhegaaaGreatDoor.Hand
open Go.RowKit Go.Proofs.YtbiogabekhegaaaGreatDoorW.PrintWords Go.Proofs.YtbiogabekhegaaaGreatDoorW.PrintLast
set_option linter.unusedVariables false
set_option linter.unusedSimpArgs false

def atoiV (l : List UInt8) : Int := match Lib.atoiAll l with | .ok v => v | .range => Lib.atoiSat l | _ => 0
def atoiOk (l : List UInt8) : Bool := match Lib.atoiAll l with | .ok _ => true | _ => false
theorem Lib_atoi_range {l : List UInt8} {v : Int} (h : Lib.atoiAll l = .ok v) : -9223372036854775808 ≤ v ∧ v ≤ 9223372036854775807 := by
  cases l with
  | nil => simp [Lib.atoiAll] at h
  | cons c r =>
    simp only [Lib.atoiAll] at h
    cases h2 : Lib.parseMag (if c.toNat = 43 ∨ c.toNat = 45 then r else c :: r)
    case ok u =>
      rw [h2] at h
      simp only at h
      by_cases hn : c.toNat = 45
      · by_cases hb : 9223372036854775808 < u
        · rw [if_neg (by simp [hn]), if_pos ⟨hn, hb⟩] at h; cases h
        · rw [if_neg (by simp [hn]), if_neg (fun x => hb x.2), if_pos hn] at h
          injection h with h
          omega
      · by_cases hb : 9223372036854775808 ≤ u
        · rw [if_pos ⟨hn, hb⟩] at h; cases h
        · rw [if_neg (fun x => hb x.2), if_neg (fun x => hn x.1), if_neg hn] at h
          injection h with h
          omega
    all_goals (rw [h2] at h; cases h)
theorem atoi_sat (l : List UInt8) : -9223372036854775808 ≤ Lib.atoiSat l ∧ Lib.atoiSat l ≤ 9223372036854775807 := by
  unfold Lib.atoiSat
  split <;> omega
theorem atoi_range (l : List UInt8) : -9223372036854775808 ≤ atoiV l ∧ atoiV l ≤ 9223372036854775807 := by
  unfold atoiV
  split
  · rename_i v h
    exact Lib_atoi_range h
  · exact atoi_sat l
  · omega
theorem atoi_any (s : ByteArray) (hs : s.size ≤ 281474976710656) (w : World) (HT : TabA w) :
    Calls Tryz.prog 67 #[.string s] w fun e w' => ∃ ev, e = .returned (.tuple #[.int .i64 (atoiV s.data.toList), ev]) ∧ ((atoiOk s.data.toList = false ∧ ∃ N, ev = .iface 139 (.pointer (some ⟨N, 0, none⟩))) ∨ (atoiOk s.data.toList = true ∧ ev = .nilIface)) ∧ Below w.heap.size w w' := by
  unfold atoiV atoiOk
  by_cases hs' : isSyn (Lib.atoiAll s.data.toList) = true
  · obtain ⟨ev, h1, h2⟩ := HT.es
    refine (Tryz.strconv_Atoi_syntax s hs hs' ev w h1 h2).mono ?_
    rintro e w' ⟨N, rfl, _, _, hb⟩
    revert hs'
    cases Lib.atoiAll s.data.toList <;> simp [isSyn, hb]
  · cases h : Lib.atoiAll s.data.toList with
    | ok v =>
      refine (Tryz.strconv_Atoi_ok s (by omega) v h w).mono ?_
      rintro e w' ⟨rfl, hw⟩
      refine ⟨_, rfl, .inr ⟨rfl, rfl⟩, ?_⟩
      rcases hw with rfl | ⟨t, rfl⟩
      · exact Below.refl _ _
      · exact Lib.bytesWorld_below w 5 t
    | range =>
      obtain ⟨ev, h1, h2⟩ := HT.er
      refine (Tryz.strconv_Atoi_range s hs h ev w h1 h2).mono ?_
      rintro e w' ⟨N, rfl, _, _, hb⟩
      exact ⟨_, rfl, .inl ⟨rfl, N, rfl⟩, hb⟩
    | _ =>
      rw [h] at hs'
      exact absurd rfl hs'
theorem itoa_any (n : Int) (h0 : -9223372036854775808 ≤ n) (h1 : n ≤ 9223372036854775807) (w : World) (HT : TabA w) :
    Calls Tryz.prog 46 #[.int .i64 n] w fun e w' => e = .returned (.string ⟨(Lib.itoa n).toArray⟩) ∧ Below w.heap.size w w' := by
  refine (Tryz.strconv_Itoa n h0 h1 w HT.tt.pow).mono ?_
  rintro e w' ⟨rfl, k, os, rfl⟩
  exact ⟨rfl, Lib.below_grow _ w (Nat.le_refl _) k os⟩

/-- A number, in its one text. -/
def numOk (s : ByteArray) : Bool := atoiOk s.data.toList && decide (0 ≤ atoiV s.data.toList) && decide (s.size ≤ 18) && decide (Lib.itoa (atoiV s.data.toList) = s.data.toList)
set_option maxHeartbeats 4000000 in
set_option maxRecDepth 100000 in
theorem number_ok (s : ByteArray) (hs : s.size ≤ 281474976710656) (w : World) (HT : TabA w) :
    Calls Tryz.prog 48 #[.string s] w fun e w' => e = .returned (.tuple #[.int .i64 (atoiV s.data.toList), .bool (numOk s)]) ∧ Below w.heap.size w w' := by
  have HA : ∀ W, TabA W → _ := fun W hT => atoi_any s hs W hT
  have hr := atoi_range s.data.toList
  have HI : ∀ W, TabA W → _ := fun W hT => itoa_any (atoiV s.data.toList) hr.1 hr.2 W hT
  have hq := ba_beq ⟨(Lib.itoa (atoiV s.data.toList)).toArray⟩ s
  have hq2 : decide ((⟨(Lib.itoa (atoiV s.data.toList)).toArray⟩ : ByteArray) = s) = decide (Lib.itoa (atoiV s.data.toList) = s.data.toList) := by
    rw [decide_eq_decide]
    exact ⟨fun e => congrArg (fun b : ByteArray => b.data.toList) e, fun e => ByteArray.ext ((congrArg List.toArray e).trans (by simp))⟩
  rw [hq2] at hq
  have hB : Aside0 (numOk s = (atoiOk s.data.toList && decide (0 ≤ atoiV s.data.toList) && decide (s.size ≤ 18) && decide (Lib.itoa (atoiV s.data.toList) = s.data.toList))) := ⟨rfl⟩
  clear hq2
  generalize decide (Lib.itoa (atoiV s.data.toList) = s.data.toList) = b6 at *
  generalize (⟨(Lib.itoa (atoiV s.data.toList)).toArray⟩ : ByteArray) = I at *
  generalize atoiV s.data.toList = n at *
  generalize atoiOk s.data.toList = b3 at *
  generalize numOk s = B at *
  obtain ⟨hr0, hr1⟩ := hr
  go_enter Tryz.func48, Tryz.ntmps48
  go_wp2_with (fail)
  refine (HA _ HT).mono ?_
  rintro e w3 ⟨ev, rfl, hev, hb⟩
  have hT3 := HT.below hb
  have hbA := Aside0.mk hb
  clear HA hb
  rcases hev with ⟨rfl, N, rfl⟩ | ⟨rfl, rfl⟩
  · have hBf : B = false := hB.out.trans (by simp)
    clear HI
    go_wp2_with (fail)
    go_ret2
    exact ⟨by first | rfl | (rw [hBf]; rfl), hbA.out⟩
  · by_cases h0 : 0 ≤ n
    · by_cases h9 : s.size ≤ 18
      · have hBf : Aside0 (B = b6) := ⟨hB.out.trans (by simp [h0, h9])⟩
        go_wp2_with (fail)
        refine (HI _ hT3).mono ?_
        rintro e w4 ⟨rfl, hb4⟩
        have hb5 := Aside0.mk (hbA.out.trans (hb4.mono hbA.out.size))
        clear HI hb4
        cases b6
        all_goals
          go_wp2_with (fail)
          go_ret2
          exact ⟨by first | rfl | (rw [hBf.out]; rfl), hb5.out⟩
      · have hBf : B = false := hB.out.trans (by simp [h9])
        have h9' : (18 : Int) < s.size := by omega
        clear HI
        go_wp2_with (fail)
        go_ret2
        exact ⟨by first | rfl | (rw [hBf]; rfl), hbA.out⟩
    · have hBf : B = false := hB.out.trans (by simp [h0])
      have h0' : n < 0 := by omega
      clear HI
      go_wp2_with (fail)
      go_ret2
      exact ⟨by first | rfl | (rw [hBf]; rfl), hbA.out⟩
end Go.Proofs.YtbiogabekhegaaaGreatDoor.Hand
