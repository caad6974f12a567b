/- EscseqLong: a sequence of as many parameters as there may be ends with its end; with one more it breaks off ahead of that. For every three bytes, no condition. -/
import Derived.Test.YtjlfpkgnkgbhiaaPEscseqLongx1
import Derived.OpenShut
namespace Go.Proofs.Ytjlfpkgnkgbhiaa.Pure
open Go.RowKit Go.Proofs.Ytjlfpkgnkgbhiaa.PEscseqLong Go.Proofs.Ytjlfpkgnkgbhiaa.Hand Go.Proofs.YtjlfpkgnkgbhiaaW.PrintWords Go.Proofs.YtjlfpkgnkgbhiaaW.PrintLast
set_option linter.unusedVariables false
set_option linter.unusedSimpArgs false

theorem alive_ok : Hand.whispererlaw09_alive.f = some true := rfl

/-- The bytes behind ESC [: k of them, the last o of them others. -/
def Bs (c : Int) (k o : Nat) : List Int := [27, 91] ++ (List.replicate (k - o) (48 + c) ++ List.replicate o (32 + c))

theorem getD_app' (l t : List Int) (i : Nat) (h : i < l.length) : (l ++ t).getD i 0 = l.getD i 0 := by
  simp [List.getD_eq_getElem?_getD, List.getElem?_append_left h]

/-- What a byte of it is. -/
theorem bs_at (c : Int) (k o : Nat) (hk : o ≤ k) (t : List Int) (i : Nat) (h2 : 2 ≤ i) (hi : i < k + 2) : (Bs c k o ++ t).getD i 0 = if i < k - o + 2 then 48 + c else 32 + c := by
  rw [getD_app' _ _ _ (by simp [Bs]; omega)]
  unfold Bs
  rw [List.getD_eq_getElem?_getD, List.getElem?_append_right (by simp; omega)]
  simp only [List.length_cons, List.length_nil]
  by_cases h : i < k - o + 2
  · rw [if_pos h, List.getElem?_append_left (by simp; omega), List.getElem?_replicate, if_pos (by omega)]; rfl
  · rw [if_neg h, List.getElem?_append_right (by simp; omega), List.getElem?_replicate, if_pos (by simp; omega)]; rfl

theorem bs_len (c : Int) (k o : Nat) (hk : o ≤ k) : (Bs c k o).length = k + 2 := by simp [Bs]; omega

/-- Over them: from place i on. -/
theorem go_over (c : Int) (k o : Nat) (hk : o ≤ k) (hc : 0 ≤ c) (hc' : c < 16) (t : List Int) : ∀ (d i : Nat) (b : Bool), 2 ≤ i → i + d ≤ k + 2 → i + d ≤ 34 → (b = true → k - o + 2 ≤ i) → ∀ e : Nat,
    ∃ b', (b' = true → k - o + 2 ≤ i + d) ∧ nextGo (Bs c k o ++ t) (d + e) i b = nextGo (Bs c k o ++ t) e (i + d) b'
  | 0, i, b, _, _, _, hb, e => ⟨b, hb, by rw [Nat.zero_add]; rfl⟩
  | d + 1, i, b, h2, hi, h34, hb, e => by
    have h1 : (Bs c k o ++ t).getD 1 0 = 91 := by rw [getD_app' _ _ _ (by rw [bs_len c k o hk]; omega)]; rfl
    have ha := bs_at c k o hk t i h2 (by omega)
    rw [show d + 1 + e = (d + e) + 1 from by omega, nextGo_succ, ha, h1]
    by_cases h : i < k - o + 2
    · have hbf : b = false := by
        cases b with
        | false => rfl
        | true => have := hb rfl; omega
      obtain ⟨b', hb', hr⟩ := go_over c k o hk hc hc' t d (i + 1) b (by omega) (by omega) (by omega) (fun x => by rw [hbf] at x; cases x) e
      refine ⟨b', fun x => by have := hb' x; omega, ?_⟩
      rw [if_pos h, if_neg (by omega), if_neg (by omega), if_pos ⟨by omega, by omega, hbf⟩, hr, show i + 1 + d = i + (d + 1) from by omega]
    · obtain ⟨b', hb', hr⟩ := go_over c k o hk hc hc' t d (i + 1) true (by omega) (by omega) (by omega) (fun _ => by omega) e
      refine ⟨b', fun x => by have := hb' x; omega, ?_⟩
      rw [if_neg h, if_neg (by omega), if_neg (by omega), if_neg (by omega), if_pos (by omega), hr, show i + 1 + d = i + (d + 1) from by omega]

theorem next_bs (c : Int) (k o : Nat) (hk : o ≤ k) (t : List Int) : nextL (Bs c k o ++ t) = nextGo (Bs c k o ++ t) (k + t.length) 2 false := by
  have h0 : (Bs c k o ++ t).getD 0 0 = 27 := by rw [getD_app' _ _ _ (by rw [bs_len c k o hk]; omega)]; rfl
  have h1 : (Bs c k o ++ t).getD 1 0 = 91 := by rw [getD_app' _ _ _ (by rw [bs_len c k o hk]; omega)]; rfl
  have hl : (Bs c k o ++ t).length = k + 2 + t.length := by rw [List.length_append, bs_len c k o hk]
  unfold nextL
  rw [if_neg (by omega), h0, h1, if_neg (fun h => h rfl), if_neg (fun x => x.2.1 rfl), hl, show k + 2 + t.length - 2 = k + t.length from by omega]

theorem begin_bs (c : Int) (k o : Nat) (hk : o ≤ k) (hc : 0 ≤ c) (hc' : c < 16) (hk' : k ≤ 32) : nextL (Bs c k o) = (0, 0, (k : Int) + 2, 7) := by
  have h := next_bs c k o hk []
  rw [List.append_nil] at h
  obtain ⟨b', _, hr⟩ := go_over c k o hk hc hc' [] k 2 false (by omega) (by omega) (by omega) (fun x => by cases x) 0
  rw [List.append_nil] at hr
  rw [h]
  refine hr.trans ?_
  show (0, 0, ((Bs c k o).length : Int), 7) = _
  rw [bs_len c k o hk]
  rfl

theorem end_bs (c : Int) (k o : Nat) (hk : o ≤ k) (hc : 0 ≤ c) (hc' : c < 16) (hk' : k ≤ 32) : nextL (Bs c k o ++ [67]) = ((kindL (strOfNums (Bs c k o ++ [67])).data.toList).getD 15, 0, (k : Int) + 3, 0) := by
  have h := next_bs c k o hk [67]
  obtain ⟨b', _, hr⟩ := go_over c k o hk hc hc' [67] k 2 false (by omega) (by omega) (by omega) (fun x => by cases x) 1
  have hl : (Bs c k o ++ [67]).length = k + 3 := by rw [List.length_append, bs_len c k o hk]; rfl
  have hg : (Bs c k o ++ [67]).getD (2 + k) 0 = 67 := by
    rw [List.getD_eq_getElem?_getD, List.getElem?_append_right (by rw [bs_len c k o hk]; omega), bs_len c k o hk]
    simp [show 2 + k - (k + 2) = 0 from by omega]
  rw [h]
  refine hr.trans ?_
  rw [show (1 : Nat) = 0 + 1 from rfl, nextGo_succ, hg, if_pos (by omega), List.take_of_length_le (by rw [hl]; omega)]
  congr 3
  omega

theorem stop_bs (c : Int) (k o : Nat) (hk : o ≤ k) (hc : 0 ≤ c) (hc' : c < 16) (hk' : 32 < k) (t : List Int) : nextL (Bs c k o ++ t) = (15, 0, 34, 0) := by
  have h := next_bs c k o hk t
  obtain ⟨b', _, hr⟩ := go_over c k o hk hc hc' t 32 2 false (by omega) (by omega) (by omega) (fun x => by cases x) (k - 32 + t.length)
  rw [h, show k + t.length = 32 + (k - 32 + t.length) from by omega]
  refine hr.trans ?_
  rw [show k - 32 + t.length = (k - 33 + t.length) + 1 from by omega, nextGo_succ, bs_at c k o hk t (2 + 32) (by omega) (by omega)]
  rw [if_neg (by split <;> omega), if_pos (.inr (by omega))]
  rfl

/-- Is it Right? Just if there is no parameter. -/
theorem right_bs (c : Int) (k o : Nat) (hk : o ≤ k) (hk' : k ≤ 32) : ((kindL (strOfNums (Bs c k o ++ [67])).data.toList).getD 15 == 5) = (k == 0) := by
  by_cases h0 : k = 0
  · subst h0
    obtain rfl : o = 0 := by omega
    have : Bs c 0 0 = [27, 91] := by simp [Bs]
    rw [this]
    decide +kernel
  · have hl : (strOfNums (Bs c k o ++ [67])).data.toList.length = k + 3 := by
      simp [strOfNums, bs_len c k o hk]
    have e : kindL (strOfNums (Bs c k o ++ [67])).data.toList ≠ some 5 := by
      generalize hs : (strOfNums (Bs c k o ++ [67])).data.toList = s at hl
      have hh : s[1]? = some 91 := by
        rw [← hs]
        simp [strOfNums, Bs]
      intro he
      unfold kindL at he
      obtain ⟨p, hp, hq⟩ := Option.map_eq_some_iff.1 he
      have hm := List.mem_of_find?_eq_some hp
      have hp1 := List.find?_some hp
      have : p.1 = s := by simpa using hp1
      unfold seqs at hm
      simp only [List.mem_cons, List.mem_nil_iff, or_false] at hm
      rcases hm with rfl | rfl | rfl | rfl | rfl | rfl | rfl | rfl | rfl | rfl | rfl | rfl | rfl | rfl | rfl <;> first | (exact absurd hq (by decide)) | (rw [← this] at hl; simp at hl; omega) | (rw [← this] at hh; simp at hh)
    have e2 : ((kindL (strOfNums (Bs c k o ++ [67])).data.toList).getD 15 == 5) = false := by
      cases hx : kindL (strOfNums (Bs c k o ++ [67])).data.toList with
      | none => rfl
      | some q =>
        have : q ≠ 5 := fun h => e (by rw [hx, h])
        simp [this]
    rw [e2]
    symm
    simpa using h0

/-- The loop lays them. -/
theorem l0_ok (a2 : Int) (c : Int) (hc : c = Int.tmod a2 16) (h0 : 0 ≤ a2) (h255 : a2 ≤ 255) (k o : Nat) (hk : o ≤ k) (hk50 : k < 50) : ∀ (d i fuel : Nat), i + d = k → d + 2 ≤ fuel →
    whispererlaw09_EscseqLong.l0 fuel a2 k o ([27, 91] ++ (List.replicate (min i (k - o)) (48 + c) ++ List.replicate (i - (k - o)) (32 + c))) k i = some true
  | 0, i, fuel, hi, hf => by
    obtain ⟨fuel, rfl⟩ : ∃ m, fuel = m + 1 := ⟨fuel - 1, by omega⟩
    have hc0 : 0 ≤ c ∧ c < 16 := by rw [hc, Int.tmod_eq_emod_of_nonneg h0]; omega
    have e : [27, 91] ++ (List.replicate (min i (k - o)) (48 + c) ++ List.replicate (i - (k - o)) (32 + c)) = Bs c k o := by
      unfold Bs
      rw [show min i (k - o) = k - o from by omega, show i - (k - o) = o from by omega]
    have hl := bs_len c k o hk
    rw [e]
    simp only [whispererlaw09_EscseqLong.l0, alive_ok]
    rw [if_neg (by omega)]
    unfold escseq_Begins.f Hand.escseq_Next.f
    by_cases h32 : (k : Int) > 32
    · have s0 := stop_bs c k o hk hc0.1 hc0.2 (by omega) []
      rw [List.append_nil] at s0
      rw [if_pos h32, if_pos (by omega), stop_bs c k o hk hc0.1 hc0.2 (by omega) [67], s0]
      simp
    · have hw : wrap64 ((k : Int) + 3) = (k : Int) + 3 := by unfold wrap64; omega
      rw [if_neg h32]
      simp only [Option.bind_some, List.nil_append]
      rw [if_pos (by simp; omega), if_pos (by omega)]
      have hr := right_bs c k o hk (by omega)
      simp only [Option.bind_some, end_bs c k o hk hc0.1 hc0.2 (by omega), begin_bs c k o hk hc0.1 hc0.2 (by omega), if_true, hw]
      rw [hr]
      have : ((k == 0) == ((k : Int) == 0)) = true := by
        by_cases hz : k = 0
        · subst hz; rfl
        · have h1 : (k == 0) = false := beq_eq_false_iff_ne.mpr hz
          have h2 : ((k : Int) == 0) = false := beq_eq_false_iff_ne.mpr (by omega)
          rw [h1, h2]; rfl
      rw [if_pos this]
      rfl
  | d + 1, i, fuel, hi, hf => by
    obtain ⟨fuel, rfl⟩ : ∃ m, fuel = m + 1 := ⟨fuel - 1, by omega⟩
    have ih := l0_ok a2 c hc h0 h255 k o hk hk50 d (i + 1) fuel (by omega) (by omega)
    have hc0 : 0 ≤ c ∧ c < 16 := by rw [hc, Int.tmod_eq_emod_of_nonneg h0]; omega
    have hwk : wrap64 ((k : Int) - o) = (k : Int) - o := by unfold wrap64; omega
    have hwi : wrap64 ((i : Int) + 1) = ((i + 1 : Nat) : Int) := by unfold wrap64; omega
    have hlen : ([27, 91] ++ (List.replicate (min i (k - o)) (48 + c) ++ List.replicate (i - (k - o)) (32 + c))).length < 140737488355328 := by simp; omega
    simp only [whispererlaw09_EscseqLong.l0]
    rw [if_pos (by omega), hwk, hwi, ← hc]
    by_cases hi2 : i < k - o
    · rw [if_pos (by omega), if_pos hlen, Int.emod_eq_of_lt (by omega) (by omega)]
      have e : [27, 91] ++ (List.replicate (min i (k - o)) (48 + c) ++ List.replicate (i - (k - o)) (32 + c)) ++ [48 + c] = [27, 91] ++ (List.replicate (min (i + 1) (k - o)) (48 + c) ++ List.replicate (i + 1 - (k - o)) (32 + c)) := by
        rw [show min i (k - o) = i from by omega, show min (i + 1) (k - o) = i + 1 from by omega, show i - (k - o) = 0 from by omega, show i + 1 - (k - o) = 0 from by omega, List.replicate_succ' (n := i)]
        simp
      rw [e]
      exact ih
    · rw [if_neg (by omega), if_pos hlen, Int.emod_eq_of_lt (by omega) (by omega)]
      have e : [27, 91] ++ (List.replicate (min i (k - o)) (48 + c) ++ List.replicate (i - (k - o)) (32 + c)) ++ [32 + c] = [27, 91] ++ (List.replicate (min (i + 1) (k - o)) (48 + c) ++ List.replicate (i + 1 - (k - o)) (32 + c)) := by
        rw [show min (i + 1) (k - o) = min i (k - o) from by omega, show i + 1 - (k - o) = (i - (k - o)) + 1 from by omega, List.replicate_succ' (n := i - (k - o))]
        simp
      rw [e]
      exact ih

theorem EscseqLong : whispererlaw09_EscseqLong.Pure := by
  intro a0 a1 a2 w0 w1 w2
  have b0 : 0 ≤ a0 ∧ a0 ≤ 255 := bounds_u8 w0
  have b1 : 0 ≤ a1 ∧ a1 ≤ 255 := bounds_u8 w1
  have b2 : 0 ≤ a2 ∧ a2 ≤ 255 := bounds_u8 w2
  refine ⟨60, ?_⟩
  unfold whispererlaw09_EscseqLong.f
  rw [Int.tmod_eq_emod_of_nonneg b0.1, Int.tmod_eq_emod_of_nonneg b1.1]
  obtain ⟨k, hk⟩ : ∃ k : Nat, a0 % 50 = (k : Int) := ⟨(a0 % 50).toNat, by omega⟩
  obtain ⟨o, ho⟩ : ∃ o : Nat, mn (wrap64 (a1 % 50)) (wrap64 (a0 % 50)) = (o : Int) ∧ o ≤ k := by
    refine ⟨(min (a1 % 50) (a0 % 50)).toNat, ?_, by omega⟩
    unfold mn wrap64
    omega
  have hw : wrap64 (a0 % 50) = (k : Int) := by unfold wrap64; omega
  rw [ho.1, hw]
  have h := l0_ok a2 _ rfl b2.1 b2.2 k o ho.2 (by omega) k 0 60 (by omega) (by omega)
  simpa using h

end Go.Proofs.Ytjlfpkgnkgbhiaa.Pure
