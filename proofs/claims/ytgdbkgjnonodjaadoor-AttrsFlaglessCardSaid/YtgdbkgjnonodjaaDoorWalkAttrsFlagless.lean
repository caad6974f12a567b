/- AttrsFlagless. -/
import Derived.Test.YtgdbkgjnonodjaaDoorHandWords06
import Derived.Test.YtgdbkgjnonodjaaDoorPAttrsFlaglessx3
namespace Go.Proofs.YtgdbkgjnonodjaaDoor.Hand
open Go.RowKit Go.Proofs.YtgdbkgjnonodjaaDoorW.PrintWords Go.Proofs.YtgdbkgjnonodjaaDoorW.PrintLast Go.Proofs.YtgdbkgjnonodjaaDoor.PAttrsFlagless
set_option linter.unusedVariables false
set_option linter.unusedSimpArgs false
theorem flagless_alive : whispererlaw06_alive.f = some true := by
  unfold whispererlaw06_alive.f
  rw [alive_text]; simp only [Option.bind_some]
  rw [read_x80]; simp only [Option.bind_some]
  rw [read_ee]; simp only [Option.bind_some]
  decide +kernel
theorem takeW_app : ∀ (p r : List UInt8), 32 ∉ p → (p ++ 32 :: r).takeWhile (fun c => c != 32) = p
  | [], r, _ => by simp
  | a :: p, r, h => by
    have h0 : a ≠ 32 := fun e => h (by simp [e])
    rw [List.cons_append, List.takeWhile_cons, if_pos (by simpa using h0), takeW_app p r (fun hm => h (by simp [hm]))]
theorem join_no (fl : Nat) : (32 : UInt8) ∉ (joinV (partL fl)).data.toList := by
  intro hm
  unfold joinV at hm
  rw [libjoin_eq] at hm
  have hm' : (32 : UInt8) ∈ joinB 43 ((partL fl).map (·.data.toList)) := by simpa using hm
  refine join_mem 43 32 (by decide) _ ?_ hm'
  intro p hp hc
  obtain ⟨x, hx, rfl⟩ := List.mem_map.mp hp
  exact absurd (part_byte fl x hx 32 hc) (by decide)
theorem words_text (a b c : Nat) : wordsOf (textV a b c) = joinV (partL a) := by
  apply ba_ext
  unfold wordsOf
  rw [data_ba]
  unfold textV wordsV
  rw [show ∀ l : List UInt8, (⟨l.toArray⟩ : ByteArray).data.toList = l from fun l => by simp, libjoin_eq, join_cons 32 _ _ (by simp), takeW_app _ _ (join_no a)]
theorem join_ne (fl : Nat) : (joinV (partL fl)).data.toList ≠ [] := by
  unfold joinV
  rw [libjoin_eq]
  have hn : ∀ x ∈ partL fl, x.data.toList ≠ [] := by
    intro x hx
    rcases part_cases fl x hx with ⟨i, hi, rfl⟩ | ⟨_, rfl⟩ | rfl
    · have : ∀ j, j < 7 → (nm j).data.toList ≠ [] := by decide
      exact this i hi
    · simp
    · simp
  cases hp : partL fl with
  | nil => exact absurd hp (part_ne fl)
  | cons x r =>
    have hx := hn x (by rw [hp]; simp)
    cases r with
    | nil => simpa [joinB] using hx
    | cons y t =>
      rw [List.map_cons, join_cons 43 _ _ (by simp)]
      simp
theorem flagless_pure (a b c d e : Int) (ha : inA a b c = true) (hd : inA a d e = true) (x : Int) : whispererlaw06_AttrsFlagless.f a b c x d e = some true := by
  obtain ⟨h1, h2, h3, h4, h5, h6⟩ := (inA_iff _ _ _).1 ha
  obtain ⟨a, rfl⟩ := Int.eq_ofNat_of_zero_le h1
  obtain ⟨b, rfl⟩ := Int.eq_ofNat_of_zero_le h3
  obtain ⟨c, rfl⟩ := Int.eq_ofNat_of_zero_le h5
  obtain ⟨g1, g2, g3, g4, g5, g6⟩ := (inA_iff _ _ _).1 hd
  obtain ⟨d, rfl⟩ := Int.eq_ofNat_of_zero_le g3
  obtain ⟨e, rfl⟩ := Int.eq_ofNat_of_zero_le g5
  have ht := text_nat a b c (by omega) (by omega) (by omega)
  have hu := text_nat a d e (by omega) (by omega) (by omega)
  have z1 := textV_size a b c (by omega) (by omega) (by omega)
  have z2 := textV_size a d e (by omega) (by omega) (by omega)
  have w1 : law06_words.f (textV a b c) = some (joinV (partL a)) := by unfold law06_words.f; rw [if_pos (by omega), words_text]
  have w2 : law06_words.f (textV a d e) = some (joinV (partL a)) := by unfold law06_words.f; rw [if_pos (by omega), words_text]
  have r1 : ∀ y z : Int, attrs_Raw.f (a : Int) y z = some (((a - a % 64 : Nat) : Int), 1, 0) := fun y z => by unfold attrs_Raw.f; rw [andnot63 a (by omega)]
  have hq : ((textV a b c).toList == (textV a d e).toList) = (((b : Int) == (d : Int)) && ((c : Int) == (e : Int))) := by
    rw [ba_beq]
    by_cases h : textV a b c = textV a d e
    · obtain ⟨_, rfl, rfl⟩ := textV_inj (by omega) (by omega) (by omega) (by omega) (by omega) (by omega) h
      simp
    · rw [decide_eq_false h]
      symm
      cases hh : (((b : Int) == (d : Int)) && ((c : Int) == (e : Int)))
      · rfl
      · exfalso
        simp only [Bool.and_eq_true, beq_iff_eq] at hh
        obtain ⟨e2, e3⟩ := hh
        have e2 : b = d := by omega
        have e3 : c = e := by omega
        exact h (by rw [e2, e3])
  unfold whispererlaw06_AttrsFlagless.f
  rw [ht]; simp only [Option.bind_some]
  rw [hu]; simp only [Option.bind_some]
  rw [flagless_alive]; simp only [Option.bind_some, if_true]
  rw [w1]; simp only [Option.bind_some]
  rw [w2]; simp only [Option.bind_some, if_true]
  rw [if_neg (by rw [ByteArray.toList_eq]; exact join_ne a), r1, r1]
  simp only [Option.bind_some, beq_self_eq_true, Bool.and_self, if_true]
  rw [hq]
  simp
theorem AttrsFlagless_walk (a0_0 a0_1 a0_2 a1_0 a1_1 a1_2 : Int) (w0_0 : (Lit.int .u32 a0_0).wf = true) (w0_1 : (Lit.int .u8 a0_1).wf = true) (w0_2 : (Lit.int .u8 a0_2).wf = true) (w1_0 : (Lit.int .u32 a1_0).wf = true) (w1_1 : (Lit.int .u8 a1_1).wf = true) (w1_2 : (Lit.int .u8 a1_2).wf = true) (w : World) (HT : TabA w) :
    Calls Tryd.prog 5 #[.agg #[.int .u32 a0_0, .int .u8 a0_1, .int .u8 a0_2], .agg #[.int .u32 a1_0, .int .u8 a1_1, .int .u8 a1_2]] w fun e w' => e = .returned (.bool true) ∧ Below w.heap.size w w' :=
  PAttrsFlagless.whispererlaw06_AttrsFlagless.calls a0_0 a0_1 a0_2 a1_0 a1_1 a1_2 true w HT (flagless_pure a0_0 a0_1 a0_2 a1_1 a1_2
    ((inA_iff _ _ _).2 ⟨(wf_u32 w0_0).1, (wf_u32 w0_0).2, (wf_u8 w0_1).1, (wf_u8 w0_1).2, (wf_u8 w0_2).1, (wf_u8 w0_2).2⟩) ((inA_iff _ _ _).2 ⟨(wf_u32 w0_0).1, (wf_u32 w0_0).2, (wf_u8 w1_1).1, (wf_u8 w1_1).2, (wf_u8 w1_2).1, (wf_u8 w1_2).2⟩) a1_0)
end Go.Proofs.YtgdbkgjnonodjaaDoor.Hand
