/- What a line's words come to, case by case, as the document's Read tells them. -/
import Derived.Test.YtbiogabekhegaaaGreatDoorPlainBack07
import Derived.Test.YtbiogabekhegaaaGreatDoorHandRefA7
namespace Go.Proofs.YtbiogabekhegaaaGreatDoor.Hand
open Go.RowKit Go.Proofs.YtbiogabekhegaaaGreatDoorW.PrintWords Go.Proofs.YtbiogabekhegaaaGreatDoorW.PrintLast
open Go.Proofs.YtbiogabekhegaaaGreatDoor.PWritten (S27 S25 k27 z27 rd_T27 at_T27 k27_mk)
set_option linter.unusedVariables false
set_option linter.unusedSimpArgs false
theorem num18 (p : ByteArray) : numOk p = decide (0 ≤ numB 10 18 p.data.toList) ∧ (0 ≤ numB 10 18 p.data.toList → atoiV p.data.toList = numB 10 18 p.data.toList) := by
  by_cases hn : 0 ≤ numB 10 18 p.data.toList
  · obtain ⟨h1, h2, h3⟩ := numB_sound (b := 10) (most := 18) (l := p.data.toList) (by decide) (by decide) hn
    obtain ⟨u, hu⟩ : ∃ u : Nat, numB 10 18 p.data.toList = u := ⟨(numB 10 18 p.data.toList).toNat, by omega⟩
    rw [hu, Int.toNat_natCast, digs_dec] at h1
    have hlt : u < 1000000000000000000 := by
      have hd : isDigB 10 p.data.toList = true := by
        unfold numB at hn
        split at hn
        · omega
        · split at hn
          · assumption
          · omega
      have h4 := valB_lt 10 p.data.toList (by decide) ((isDigB_iff 10 _).1 hd)
      rw [← h3, hu, Int.toNat_natCast] at h4
      exact Nat.lt_of_lt_of_le h4 (Nat.le_trans (Nat.pow_le_pow_right (by decide) h2) (by decide))
    have ha := atoi_digs u (by omega)
    rw [h1] at ha
    have hv : atoiV p.data.toList = u := by unfold atoiV; rw [ha]
    refine ⟨?_, fun _ => by rw [hv, hu]⟩
    rw [decide_eq_true hn]
    unfold numOk atoiOk
    have hz : p.size ≤ 18 := by rw [Lib.size_eq]; exact h2
    rw [hv, ha, itoa_dec, h1]
    simp [hz]
  · rw [decide_eq_false hn]
    refine ⟨Bool.eq_false_iff.mpr fun h => hn ?_, fun h => absurd h hn⟩
    unfold numOk at h
    simp only [Bool.and_eq_true, decide_eq_true_eq] at h
    obtain ⟨⟨⟨_, h0⟩, h1⟩, h2⟩ := h
    obtain ⟨u, hu⟩ := Int.eq_ofNat_of_zero_le h0
    rw [hu, itoa_dec, ← digs_dec] at h2
    rw [← h2, numB_digs (by decide) (by decide) (by rw [h2, ← Lib.size_eq]; exact h1)]
    omega
theorem readS_none {l : List UInt8} {w0 : ByteArray} {r : List ByteArray} (hp : pieces 32 (ba l) = w0 :: r) (h : readW w0 r = none) : readS l = (effS Eff.zero, 8) := by
  unfold readS readR; rw [hp]; simp only [h]
theorem readS_some {l : List UInt8} {w0 : ByteArray} {r : List ByteArray} {x : Eff} (hp : pieces 32 (ba l) = w0 :: r) (h : readW w0 r = some x) : readS l = (effS x, 0) := by
  unfold readS readR; rw [hp]; simp only [h]
theorem body_of {w0 : ByteArray} {r : List ByteArray} (h : ∀ k, k < 7 → w0 = kWord k → bodyK k r = none) : readW w0 r = none := by
  unfold readW
  cases hk : kindOf w0 with
  | none => rfl
  | some k =>
    obtain ⟨h1, h2⟩ := kindOf_some hk
    exact h k h1 h2
theorem body_at (k : Nat) (hk : k < 7) (r : List ByteArray) : readW (kWord k) r = bodyK k r := by
  unfold readW
  rw [kindOf_at k hk]
  rfl
theorem went_lt {k : Nat} (h : kWent k = true) : k < 4 := of_decide_eq_true h
theorem went_ge {k : Nat} (h : ¬ kWent k = true) : 4 ≤ k := by
  have : ¬ k < 4 := fun e => h (decide_eq_true e)
  omega
theorem more_end (k : Nat) (h : k = 5 ∨ k = 6) : kMore k = 0 := by rcases h with rfl | rfl <;> rfl
theorem w7_one (w0 : ByteArray) (h5 : w0 ≠ kWord 5) (h6 : w0 ≠ kWord 6) : readW w0 [] = none := body_of fun k hk e => by
  unfold bodyK
  split
  · rfl
  · rename_i hw
    have hw := went_ge hw
    refine fin_len ?_
    obtain rfl | rfl | rfl : k = 4 ∨ k = 5 ∨ k = 6 := by omega
    · decide
    · exact absurd e h5
    · exact absurd e h6
theorem w7_neither (w0 r0 : ByteArray) (r : List ByteArray) (h4 : w0 ≠ kWord 4) (ho : r0 ≠ okW) (hf : r0 ≠ failW) : readW w0 (r0 :: r) = none := body_of fun k hk e => by
  unfold bodyK
  split
  · simp only [ho, hf, or_self, if_false]
  · rename_i hw
    have hw := went_ge hw
    refine fin_len ?_
    obtain rfl | h : k = 4 ∨ (k = 5 ∨ k = 6) := by omega
    · exact absurd e h4
    · rw [more_end k h]; simp
theorem w7_other (w0 r0 : ByteArray) (r : List ByteArray) (h0 : w0 ≠ kWord 0) (h1 : w0 ≠ kWord 1) (h2 : w0 ≠ kWord 2) (h3 : w0 ≠ kWord 3) (h4 : w0 ≠ kWord 4) : readW w0 (r0 :: r) = none := body_of fun k hk e => by
  obtain rfl | rfl | rfl | rfl | rfl | h : k = 0 ∨ k = 1 ∨ k = 2 ∨ k = 3 ∨ k = 4 ∨ (k = 5 ∨ k = 6) := by omega
  · exact absurd e h0
  · exact absurd e h1
  · exact absurd e h2
  · exact absurd e h3
  · exact absurd e h4
  · unfold bodyK
    rw [if_neg (by rcases h with rfl | rfl <;> decide)]
    exact fin_len (by rw [more_end k h]; simp)
theorem went_body {k : Nat} (hk : k < 4) {r0 : ByteArray} (r : List ByteArray) (hr : r0 = okW ∨ r0 = failW) : bodyK k (r0 :: r) = finK k r { Eff.zero with k := k, ok := decide (r0 = okW) } := by
  unfold bodyK
  rw [if_pos (show kWent k = true from decide_eq_true hk)]
  simp only [if_pos hr]
theorem w7_len {k : Nat} (hk : k < 4) {r0 : ByteArray} {r : List ByteArray} (hr : r.length ≠ kMore k) : readW (kWord k) (r0 :: r) = none := by
  rw [body_at k (by omega)]
  unfold bodyK
  rw [if_pos (show kWent k = true from decide_eq_true hk)]
  simp only
  split
  · exact fin_len hr
  · rfl
theorem w7_len4 {r : List ByteArray} (hr : r.length ≠ 1) : readW (kWord 4) r = none := by
  rw [body_at 4 (by decide)]
  unfold bodyK
  rw [if_neg (by decide)]
  exact fin_len hr
theorem w7_attrs {k : Nat} (hk : k < 2) {r0 a b c : ByteArray} (hr : r0 = okW ∨ r0 = failW) (h : (readV ⟨(Lib.join ([a, b, c].map (·.data.toList)) [32]).toArray⟩).2.2.2 = 0) : readW (kWord k) [r0, a, b, c] = some ⟨(k : Int), (readV ⟨(Lib.join ([a, b, c].map (·.data.toList)) [32]).toArray⟩).1, (readV ⟨(Lib.join ([a, b, c].map (·.data.toList)) [32]).toArray⟩).2.1, (readV ⟨(Lib.join ([a, b, c].map (·.data.toList)) [32]).toArray⟩).2.2.1, [], 0, decide (r0 = okW)⟩ := by
  rw [body_at k (by omega), went_body (by omega) _ hr]
  unfold finK rdK
  simp only [if_pos hk]
  rw [if_pos ⟨by obtain rfl | rfl : k = 0 ∨ k = 1 := by omega
                 all_goals rfl, by rw [h]; rfl⟩]
  rfl
theorem w7_attrs_no {k : Nat} (hk : k < 2) {r0 a b c : ByteArray} (hr : r0 = okW ∨ r0 = failW) (h : (readV ⟨(Lib.join ([a, b, c].map (·.data.toList)) [32]).toArray⟩).2.2.2 ≠ 0) : readW (kWord k) [r0, a, b, c] = none := by
  rw [body_at k (by omega), went_body (by omega) _ hr]
  unfold finK rdK
  simp only [if_pos hk]
  rw [if_neg (fun e => h (by have := e.2; simpa using this))]
theorem w7_wrote {r0 a b : ByteArray} (hr : r0 = okW ∨ r0 = failW) (h1 : toldOk a.data.toList = true) (h2 : 0 ≤ numB 10 18 b.data.toList) : readW (kWord 2) [r0, a, b] = some ⟨2, 0, 0, 0, toldL a.data.toList, numB 10 18 b.data.toList, decide (r0 = okW)⟩ := by
  rw [body_at 2 (by omega), went_body (by omega) _ hr]
  unfold finK rdK
  have e1 : ([a, b] : List ByteArray).getD 0 ByteArray.empty = a := rfl
  have e2 : ([a, b] : List ByteArray).getD 1 ByteArray.empty = b := rfl
  obtain ⟨n1, n2⟩ := num18 b
  rw [decide_eq_true h2] at n1
  simp only [if_neg (show ¬ (2 : Nat) < 2 by decide), e1, e2, h1, n1, n2 h2]
  rw [if_pos ⟨rfl, rfl⟩]
  rfl
theorem w7_wrote_no {r0 a b : ByteArray} (hr : r0 = okW ∨ r0 = failW) (h : toldOk a.data.toList = false ∨ numB 10 18 b.data.toList < 0) : readW (kWord 2) [r0, a, b] = none := by
  rw [body_at 2 (by omega), went_body (by omega) _ hr]
  unfold finK rdK
  have e1 : ([a, b] : List ByteArray).getD 0 ByteArray.empty = a := rfl
  have e2 : ([a, b] : List ByteArray).getD 1 ByteArray.empty = b := rfl
  obtain ⟨n1, n2⟩ := num18 b
  simp only [if_neg (show ¬ (2 : Nat) < 2 by decide), e1, e2, n1]
  rw [if_neg]
  intro e
  have e3 := e.2
  simp only [if_true, Bool.and_eq_true, decide_eq_true_eq] at e3
  rcases h with h | h
  · rw [h] at e3; exact absurd e3.1 (by decide)
  · omega
theorem w7_read {r0 a : ByteArray} (hr : r0 = okW ∨ r0 = failW) (h2 : 0 ≤ numB 10 18 a.data.toList) : readW (kWord 3) [r0, a] = some ⟨3, 0, 0, 0, [], numB 10 18 a.data.toList, decide (r0 = okW)⟩ := by
  rw [body_at 3 (by omega), went_body (by omega) _ hr]
  unfold finK rdK
  have e1 : ([a] : List ByteArray).getD 0 ByteArray.empty = a := rfl
  obtain ⟨n1, n2⟩ := num18 a
  rw [decide_eq_true h2] at n1
  simp only [if_neg (show ¬ (3 : Nat) < 2 by decide), if_neg (show ¬ (3 : Nat) = 2 by decide), if_pos (show (3 : Nat) < 5 by decide), e1, n1, n2 h2]
  rw [if_pos (by first | exact ⟨rfl, rfl⟩ | exact ⟨rfl, trivial⟩)]
  rfl
theorem w7_read_no {r0 a : ByteArray} (hr : r0 = okW ∨ r0 = failW) (h : numB 10 18 a.data.toList < 0) : readW (kWord 3) [r0, a] = none := by
  rw [body_at 3 (by omega), went_body (by omega) _ hr]
  unfold finK rdK
  have e1 : ([a] : List ByteArray).getD 0 ByteArray.empty = a := rfl
  obtain ⟨n1, n2⟩ := num18 a
  rw [decide_eq_false (by omega)] at n1
  simp only [if_neg (show ¬ (3 : Nat) < 2 by decide), if_neg (show ¬ (3 : Nat) = 2 by decide), if_pos (show (3 : Nat) < 5 by decide), e1, n1]
  rw [if_neg (fun e => absurd e.2 (by decide))]
theorem w7_signal {a : ByteArray} (h2 : 0 ≤ numB 10 18 a.data.toList) : readW (kWord 4) [a] = some ⟨4, 0, 0, 0, [], numB 10 18 a.data.toList, false⟩ := by
  rw [body_at 4 (by omega)]
  unfold bodyK
  rw [if_neg (by decide)]
  unfold finK rdK
  have e1 : ([a] : List ByteArray).getD 0 ByteArray.empty = a := rfl
  obtain ⟨n1, n2⟩ := num18 a
  rw [decide_eq_true h2] at n1
  simp only [if_neg (show ¬ (4 : Nat) < 2 by decide), if_neg (show ¬ (4 : Nat) = 2 by decide), if_pos (show (4 : Nat) < 5 by decide), e1, n1, n2 h2]
  rw [if_pos (by first | exact ⟨rfl, rfl⟩ | exact ⟨rfl, trivial⟩)]
  rfl
theorem w7_signal_no {a : ByteArray} (h : numB 10 18 a.data.toList < 0) : readW (kWord 4) [a] = none := by
  rw [body_at 4 (by omega)]
  unfold bodyK
  rw [if_neg (by decide)]
  unfold finK rdK
  have e1 : ([a] : List ByteArray).getD 0 ByteArray.empty = a := rfl
  obtain ⟨n1, n2⟩ := num18 a
  rw [decide_eq_false (by omega)] at n1
  simp only [if_neg (show ¬ (4 : Nat) < 2 by decide), if_neg (show ¬ (4 : Nat) = 2 by decide), if_pos (show (4 : Nat) < 5 by decide), e1, n1]
  rw [if_neg (fun e => absurd e.2 (by decide))]
theorem w7_end : readW (kWord 5) [] = some ⟨5, 0, 0, 0, [], 0, false⟩ := by
  rw [body_at 5 (by omega)]
  rfl
theorem w7_history : readW (kWord 6) [] = some ⟨6, 0, 0, 0, [], 0, false⟩ := by
  rw [body_at 6 (by omega)]
  rfl
theorem pieces_end : pieces 32 ⟨#[101, 110, 100]⟩ = [kWord 5] := by decide +kernel
theorem pieces_history : pieces 32 ⟨#[104, 105, 115, 116, 111, 114, 121]⟩ = [kWord 6] := by decide +kernel
theorem pieces_one {s w0 : ByteArray} (h : pieces 32 s = [w0]) : s = w0 := by
  unfold pieces at h
  have h2 := congrArg (fun L => L.map (·.data.toList)) h
  simp only [map_ba, List.map_cons, List.map_nil] at h2
  have h3 := join_split 32 s.data.toList
  rw [h2] at h3
  exact ba_ext h3.symm
end Go.Proofs.YtbiogabekhegaaaGreatDoor.Hand
