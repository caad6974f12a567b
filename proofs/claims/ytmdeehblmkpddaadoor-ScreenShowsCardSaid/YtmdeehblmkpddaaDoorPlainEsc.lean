/- Plain facts on 'nextL': what a sequence is told by, ahead of what stands behind it. -/
import Derived.Test.YtmdeehblmkpddaaDoorHandEscNextAll
namespace Go.Proofs.YtmdeehblmkpddaaDoor.Hand
open Go.RowKit Go.Proofs.YtmdeehblmkpddaaDoorW.PrintWords Go.Proofs.YtmdeehblmkpddaaDoorW.PrintLast
set_option linter.unusedVariables false
set_option linter.unusedSimpArgs false

theorem getD_app (l t : List Int) (i : Nat) (h : i < l.length) : (l ++ t).getD i 0 = l.getD i 0 := by
  simp [List.getD_eq_getElem?_getD, List.getElem?_append_left h]
theorem getD_take (l : List Int) (m i : Nat) (h : i < m) : (l.take m).getD i 0 = l.getD i 0 := by
  simp [List.getD_eq_getElem?_getD, List.getElem?_take, h]

/-- What holds of the answer from place i on. -/
def GoSpec (l : List Int) (d i : Nat) (o : Bool) : Prop :=
  (nextGo l d i o = (0, 0, (l.length : Int), 7) ∧ l.length ≤ 34) ∨
  (∃ (q : Int) (m : Nat), nextGo l d i o = (q, 0, (m : Int), 0) ∧ i ≤ m ∧ m ≤ l.length ∧ m ≤ 35 ∧ (∀ t : List Int, nextGo (l ++ t) (d + t.length) i o = (q, 0, (m : Int), 0)) ∧
    ((nextGo (l.take m) (m - i) i o = (0, 0, (m : Int), 7) ∧ q = 15) ∨ nextGo (l.take m) (m - i) i o = (q, 0, (m : Int), 0)))

theorem stop_spec (l : List Int) (d i : Nat) (o : Bool) (hd : l.length = i + (d + 1)) (hi : 2 ≤ i) (h34 : i ≤ 34) (hA : ¬ (64 ≤ l.getD i 0 ∧ l.getD i 0 ≤ 126))
    (hs : ∀ l' : List Int, ∀ d' : Nat, l'.getD i 0 = l.getD i 0 → l'.getD 1 0 = l.getD 1 0 → nextGo l' (d' + 1) i o = (15, 0, (i : Int), 0)) : GoSpec l (d + 1) i o := by
  refine .inr ⟨15, i, hs l d rfl rfl, Nat.le_refl _, by omega, by omega, fun t => ?_, .inl ⟨?_, rfl⟩⟩
  · rw [show d + 1 + t.length = (d + t.length) + 1 from by omega]
    exact hs _ _ (getD_app l t i (by omega)) (getD_app l t 1 (by omega))
  · rw [Nat.sub_self]
    show (0, 0, ((l.take i).length : Int), 7) = _
    rw [List.length_take, Nat.min_eq_left (by omega)]

theorem cont_spec (l : List Int) (d i : Nat) (o o' : Bool) (hd : l.length = i + (d + 1)) (hi : 2 ≤ i)
    (hs : ∀ l' : List Int, ∀ d' : Nat, l'.getD i 0 = l.getD i 0 → l'.getD 1 0 = l.getD 1 0 → nextGo l' (d' + 1) i o = nextGo l' d' (i + 1) o') (ih : GoSpec l d (i + 1) o') : GoSpec l (d + 1) i o := by
  have e := hs l d rfl rfl
  rcases ih with ⟨h1, h2⟩ | ⟨q, m, h1, h2, h3, h4, h5, h6⟩
  · exact .inl ⟨e.trans h1, h2⟩
  · refine .inr ⟨q, m, e.trans h1, by omega, h3, h4, fun t => ?_, ?_⟩
    · rw [show d + 1 + t.length = (d + t.length) + 1 from by omega, hs _ _ (getD_app l t i (by omega)) (getD_app l t 1 (by omega))]
      exact h5 t
    · rw [show m - i = (m - (i + 1)) + 1 from by omega, hs _ _ (getD_take l m i (by omega)) (getD_take l m 1 (by omega))]
      exact h6

theorem go_spec (l : List Int) : ∀ (d i : Nat) (o : Bool), l.length = i + d → 2 ≤ i → i ≤ 34 → GoSpec l d i o
  | 0, i, o, hd, hi, h34 => .inl ⟨rfl, by omega⟩
  | d + 1, i, o, hd, hi, h34 => by
    by_cases hA : 64 ≤ l.getD i 0 ∧ l.getD i 0 ≤ 126
    · have e : ∀ l' : List Int, ∀ d' : Nat, l'.getD i 0 = l.getD i 0 → l'.take (i + 1) = l.take (i + 1) → nextGo l' (d' + 1) i o = (((kindL (strOfNums (l.take (i + 1))).data.toList).getD 15), 0, ((i + 1 : Nat) : Int), 0) := by
        intro l' d' h1 h2
        rw [nextGo_succ, h1, if_pos hA, h2]
        rfl
      refine .inr ⟨_, i + 1, e l d rfl rfl, by omega, by omega, by omega, fun t => ?_, .inr ?_⟩
      · rw [show d + 1 + t.length = (d + t.length) + 1 from by omega]
        exact e _ _ (getD_app l t i (by omega)) (by rw [List.take_append_of_le_length (by omega)])
      · rw [show i + 1 - i = 0 + 1 from by omega]
        exact e _ _ (getD_take l (i + 1) i (by omega)) (by rw [List.take_take, Nat.min_self])
    · by_cases hF : l.getD 1 0 = 79 ∨ 34 ≤ i
      · refine stop_spec l d i o hd hi h34 hA (fun l' d' h1 h2 => ?_)
        rw [nextGo_succ, h1, h2, if_neg hA, if_pos hF]
      · have hi' : i + 1 ≤ 34 := by omega
        by_cases hP : 48 ≤ l.getD i 0 ∧ l.getD i 0 ≤ 63 ∧ o = false
        · refine cont_spec l d i o o hd hi (fun l' d' h1 h2 => ?_) (go_spec l d (i + 1) o (by omega) (by omega) hi')
          rw [nextGo_succ, h1, h2, if_neg hA, if_neg hF, if_pos hP]
        · by_cases hQ : 32 ≤ l.getD i 0 ∧ l.getD i 0 ≤ 47
          · refine cont_spec l d i o true hd hi (fun l' d' h1 h2 => ?_) (go_spec l d (i + 1) true (by omega) (by omega) hi')
            rw [nextGo_succ, h1, h2, if_neg hA, if_neg hF, if_neg hP, if_pos hQ]
          · refine stop_spec l d i o hd hi h34 hA (fun l' d' h1 h2 => ?_)
            rw [nextGo_succ, h1, h2, if_neg hA, if_neg hF, if_neg hP, if_neg hQ]

/-- What holds of Next's answer. -/
theorem next_spec (l : List Int) :
    (∃ e : Int, nextL l = (0, 0, 0, e) ∧ e ≠ 7 ∧ e ≠ 0 ∧ (l.length = 0 ∨ l.getD 0 0 ≠ 27)) ∨
    (nextL l = (0, 0, (l.length : Int), 7) ∧ l.length ≤ 34) ∨
    (∃ (q : Int) (m : Nat), nextL l = (q, 0, (m : Int), 0) ∧ 1 ≤ m ∧ m ≤ l.length ∧ m ≤ 35 ∧ (∀ t : List Int, nextL (l ++ t) = (q, 0, (m : Int), 0)) ∧
      ((nextL (l.take m) = (0, 0, (m : Int), 7) ∧ q = 15) ∨ nextL (l.take m) = (q, 0, (m : Int), 0))) := by
  by_cases hz : l.length = 0
  · exact .inl ⟨6, by unfold nextL; rw [if_pos hz], by decide, by decide, .inl hz⟩
  by_cases h0 : l.getD 0 0 = 27
  · by_cases h1 : l.length = 1
    · refine .inr (.inl ⟨?_, by omega⟩)
      unfold nextL
      rw [if_neg hz, if_neg (fun h => h h0), if_neg (by omega), h1]
      show (0, 0, (l.length : Int), 7) = _
      rw [h1]
    · by_cases hb : l.getD 1 0 ≠ 91 ∧ l.getD 1 0 ≠ 79
      · have e : ∀ l' : List Int, 1 < l'.length → l'.getD 0 0 = l.getD 0 0 → l'.getD 1 0 = l.getD 1 0 → nextL l' = (15, 0, 1, 0) := by
          intro l' g1 g2 g3
          unfold nextL
          rw [if_neg (by omega), g2, g3, if_neg (fun h => h h0), if_pos ⟨g1, hb.1, hb.2⟩]
        refine .inr (.inr ⟨15, 1, e l (by omega) rfl rfl, by omega, by omega, by omega, fun t => e _ (by simp; omega) (getD_app l t 0 (by omega)) (getD_app l t 1 (by omega)), .inl ⟨?_, rfl⟩⟩)
        have hl : (l.take 1).length = 1 := by simp; omega
        have hg : (l.take 1).getD 0 0 = 27 := (getD_take l 1 0 (by omega)).trans h0
        unfold nextL
        rw [if_neg (by omega), if_neg (fun h => h hg), if_neg (by omega), hl]
        show (0, 0, ((l.take 1).length : Int), 7) = _
        rw [hl]
      · have e : ∀ l' : List Int, 1 < l'.length → l'.getD 0 0 = l.getD 0 0 → l'.getD 1 0 = l.getD 1 0 → nextL l' = nextGo l' (l'.length - 2) 2 false := by
          intro l' g1 g2 g3
          unfold nextL
          rw [if_neg (by omega), g2, g3, if_neg (fun h => h h0), if_neg (fun h => hb ⟨h.2.1, h.2.2⟩)]
        have e0 := e l (by omega) rfl rfl
        rcases go_spec l (l.length - 2) 2 false (by omega) (by omega) (by omega) with ⟨h2, h3⟩ | ⟨q, m, h2, h3, h4, h5, h6, h7⟩
        · exact .inr (.inl ⟨e0.trans h2, h3⟩)
        · refine .inr (.inr ⟨q, m, e0.trans h2, by omega, h4, h5, fun t => ?_, ?_⟩)
          · rw [e _ (by simp; omega) (getD_app l t 0 (by omega)) (getD_app l t 1 (by omega)), List.length_append, show l.length + t.length - 2 = l.length - 2 + t.length from by omega]
            exact h6 t
          · have hl : (l.take m).length = m := by simp; omega
            rw [e _ (by omega) (getD_take l m 0 (by omega)) (getD_take l m 1 (by omega)), hl]
            exact h7
  · exact .inl ⟨8, by unfold nextL; rw [if_neg hz, if_pos h0], by decide, by decide, .inr h0⟩

end Go.Proofs.YtmdeehblmkpddaaDoor.Hand
