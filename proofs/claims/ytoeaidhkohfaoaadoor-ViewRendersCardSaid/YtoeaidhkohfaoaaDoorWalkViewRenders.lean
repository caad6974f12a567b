/- ViewRenders: of any ask and any numbers the bytes are the document's, or why there are none, how many stars, and where the place is. -/
import Derived.Test.YtoeaidhkohfaoaaDoorPViewRendersx2
import Derived.Test.YtoeaidhkohfaoaaDoorHandRefNext
import Derived.Test.YtoeaidhkohfaoaaDoorHandDec
namespace Go.Proofs.YtoeaidhkohfaoaaDoor.Pure
open Go.RowKit Go.Proofs.YtoeaidhkohfaoaaDoor.PViewRenders Go.Proofs.YtoeaidhkohfaoaaDoor.Hand Go.Proofs.YtoeaidhkohfaoaaDoorW.PrintWords Go.Proofs.YtoeaidhkohfaoaaDoorW.PrintLast
set_option linter.unusedVariables false
set_option linter.unusedSimpArgs false

theorem alive_of (k : Nat) : whispererlaw13_alive.f k = some true := by
  unfold whispererlaw13_alive.f view_Render.f
  have h1 : checkI (⟨#[112, 119, 58, 32]⟩ : ByteArray) 1 0 = 0 := by decide +kernel
  have h2 : checkI (⟨#[112, 119, 58, 32]⟩ : ByteArray) 2 0 = 0 := by decide +kernel
  have h3 : rightB 1 3 1 = true := by decide +kernel
  have h4 : rightB 2 3 1 = true := by decide +kernel
  have h5 : (strOfNums (renderL (⟨#[112, 119, 58, 32]⟩ : ByteArray) 1 3 1)).toList = ([13, 112, 119, 58, 32, 42, 42, 42, 27, 91, 75, 27, 91, 50, 68] : List UInt8) := by decide +kernel
  have h6 : (strOfNums (renderL (⟨#[112, 119, 58, 32]⟩ : ByteArray) 2 3 1)).toList = ([13, 112, 119, 58, 32, 42, 42, 42, 42, 42, 42, 42, 42, 27, 91, 75] : List UInt8) := by decide +kernel
  have hs : (⟨#[112, 119, 58, 32]⟩ : ByteArray).size ≤ 9223372036854775807 := by decide
  rw [if_pos hs, if_pos hs, h1, h2, h3, h4]
  simp [h5, h6]
theorem rightB_eq (m c a : Int) : rightB m c a = true ↔ 0 ≤ m ∧ m < 3 ∧ 0 ≤ a ∧ a ≤ c ∧ c ≤ 1024 := by
  unfold rightB
  simp only [Bool.and_eq_true, decide_eq_true_eq]
  omega
theorem fine_eq (m c a : Int) : whispererref13_fine.f m c a = some (rightB m c a) := by
  have e : ∀ b : Bool, (b = true ↔ rightB m c a = true) → some b = some (rightB m c a) := fun b h => congrArg some (Bool.eq_iff_iff.2 h)
  unfold whispererref13_fine.f
  repeat' split
  all_goals (refine e _ ?_; rw [rightB_eq]; simp <;> omega)
theorem stars_eq (k : Nat) (m c : Int) : whispererref13_Stars.f (k + 1) m c = some (starsI m c) := by
  unfold whispererref13_Stars.f starsI
  rw [fine_eq, Option.bind_some]
  by_cases h : rightB m c 0 = true
  · have hr := (rightB_eq _ _ _).1 h
    rw [if_pos h, if_pos h]
    by_cases h0 : m = 0
    · rw [if_pos h0, if_pos h0, whispererref13_Stars.j0, if_pos rfl]
    · rw [if_neg h0, if_neg h0, whispererref13_Stars.j0]
      by_cases hc : c = 0
      · subst hc
        rw [if_pos (show ((0 : Int) == 0) = true from rfl)]
        by_cases h1 : m = 1
        · rw [if_pos h1]
        · rw [if_neg h1, if_pos rfl]
      · have : (c == 0) = false := by simpa using hc
        rw [this, if_neg (by decide)]
        by_cases h1 : m = 1
        · rw [if_pos h1, if_neg (by omega)]
        · rw [if_neg h1, if_pos (by omega), if_neg hc]
  · rw [if_neg h, if_neg h, whispererref13_Stars.j0, if_pos rfl]
theorem place_eq (k : Nat) (m c a : Int) : whispererref13_Place.f (k + 2) m c a = some (placeI m c a) := by
  unfold whispererref13_Place.f placeI
  rw [fine_eq, Option.bind_some]
  by_cases h : rightB m c a = true
  · have hr := (rightB_eq _ _ _).1 h
    rw [if_pos h, if_pos h, whispererref13_Place.j0]
    by_cases h0 : m = 0
    · subst h0
      rw [if_pos (show ((0 : Int) == 0) = true from rfl), if_pos rfl]
    · have : (m == 0) = false := by simpa using h0
      rw [this, if_neg (by decide), if_neg h0]
      by_cases h1 : m = 1
      · rw [if_pos h1, if_neg (by omega)]
      · rw [if_neg h1, if_pos (by omega), stars_eq, Option.bind_some]
        have : starsI 2 c = if c = 0 then 0 else 8 := by
          unfold starsI
          rw [if_pos ((rightB_eq _ _ _).2 (by omega)), if_neg (by decide), if_neg (by decide)]
        rw [this]
  · rw [if_neg h, if_neg h, whispererref13_Place.j0, if_pos rfl]
theorem rcheck_eq (k : Nat) (s : ByteArray) (m r : Int) (hs : s.size ≤ 2000) (hk : 2100 ≤ k) : ref13_Check.f k s m r = some (checkI s m r) := by
  have hf : PFine.whispererref11_Fine.f k (sb s) = some (fineL s.size (sb s)) := by
    unfold PFine.whispererref11_Fine.f
    have := ref_fine (sb_byte s) (by rw [sb_length]; omega) s.size 0 (k - 9) (by rw [sb_length]; omega) (by omega)
    rw [show k - 9 + 9 = k by omega, show ((0 : Nat) : Int) = 0 from rfl, List.drop_zero] at this
    exact this
  unfold ref13_Check.f
  rw [if_pos (by omega), hf, Option.bind_some]
  unfold r13 checkI
  congr 1
  repeat' split
  all_goals first | rfl | omega
theorem dec_more (k j u : Nat) (r : ByteArray) (h : PDecimal.whispererref06_Decimal.f k (u : Int) 10 = some r) : PDecimal.whispererref06_Decimal.f (k + j) (u : Int) 10 = some r := by
  induction j with
  | zero => exact h
  | succ j ih => exact PDecimal.whispererref06_Decimal.mono _ _ (k + j) r ih
theorem dec10 (k u : Nat) (hu : u ≤ 1024) (hk : 10 ≤ k) : PDecimal.whispererref06_Decimal.f k (u : Int) 10 = some (ba (Lib.itoa u)) := by
  have hl : (digs 10 u).length ≤ 4 := digs_len (by omega) (by omega) (by omega) (by omega)
  have := dec_eq 10 u 5 (by omega) (by omega) (by omega) (by omega) (by omega)
  rw [show ((10 : Nat) : Int) = 10 from rfl] at this
  have := dec_more 6 (k - 6) u _ this
  rw [show 6 + (k - 6) = k by omega] at this
  rw [this, itoa_nat (by omega), digs_dec, Int.toNat_natCast]

theorem loop_stars (c a : Int) (n : Nat) (hn : n ≤ 1000000) (s : ByteArray) (m r : Int) : ∀ (d i k : Nat) (x : ByteArray), i + d = n → x.size + d ≤ 1000000 →
    whispererref13_Render.l0 (k + d) c a x (n : Int) (i : Int) s m r = whispererref13_Render.l0 k c a (x ++ ba (List.replicate d 42)) (n : Int) (n : Int) s m r
  | 0, i, k, x, hi, hx => by
    obtain rfl : i = n := by omega
    have : x ++ ba (List.replicate 0 42) = x := ba_ext (by rw [ba_app, data_ba]; simp)
    rw [this]
    rfl
  | d + 1, i, k, x, hi, hx => by
    have e1 : (x ++ (⟨#[42]⟩ : ByteArray)).size = x.size + 1 := by rw [ByteArray.size_append]; rfl
    rw [show k + (d + 1) = (k + d) + 1 by omega, whispererref13_Render.l0, if_pos (by omega), if_pos (by omega), wr64 (by omega) (by omega), show (i : Int) + 1 = ((i + 1 : Nat) : Int) by omega,
      loop_stars c a n hn s m r d (i + 1) k _ (by omega) (by omega)]
    congr 1
    apply ba_ext
    rw [ba_app, ba_app, ba_app, data_ba, data_ba, List.append_assoc, List.replicate_succ]
    rfl
theorem ints_back (s : ByteArray) : (bytesOf s).map (fun n => UInt8.ofNat n.toNat) = s.data.toList := by
  unfold bytesOf
  rw [List.map_map]
  have : ((fun n : Int => UInt8.ofNat n.toNat) ∘ fun b : UInt8 => (b.toNat : Int)) = id := by
    funext b
    simp
  rw [this, List.map_id]
theorem itoaI_back (i : Int) : (itoaI i).map (fun n => UInt8.ofNat n.toNat) = Lib.itoa i := by
  unfold itoaI
  rw [List.map_map]
  have : ((fun n : Int => UInt8.ofNat n.toNat) ∘ fun b : UInt8 => (b.toNat : Int)) = id := by
    funext b
    simp
  rw [this, List.map_id]
theorem nums_data (l : List Int) : (strOfNums l).data.toList = l.map fun n => UInt8.ofNat n.toNat := by
  unfold strOfNums
  simp

theorem render_eq (s : ByteArray) (m r c a : Int) (hs : s.size ≤ 2000) (k : Nat) (hk : 4000 ≤ k) :
    ∃ t e, view_Render.f k s m r c a = some (t, e) ∧ whispererref13_Render.f k s m r c a = some (strOfNums t, e) := by
  unfold view_Render.f whispererref13_Render.f
  rw [if_pos (by omega), rcheck_eq k s m r hs (by omega), Option.bind_some]
  by_cases hc : checkI s m r = 0
  · rw [if_pos hc, if_neg (fun h => h hc), fine_eq, Option.bind_some]
    by_cases hr : rightB m c a = true
    · rw [if_pos hr, if_pos hr, if_pos (by omega)]
      refine ⟨_, _, rfl, ?_⟩
      have hb := (rightB_eq _ _ _).1 hr
      have hr0 : rightB m c 0 = true := (rightB_eq _ _ _).2 (by omega)
      have hst : 0 ≤ starsI m c ∧ starsI m c ≤ 1024 ∧ 0 ≤ placeI m c a ∧ placeI m c a ≤ starsI m c := by
        unfold starsI placeI
        rw [if_pos hr, if_pos hr0]
        repeat' split
        all_goals omega
      obtain ⟨k, rfl⟩ : ∃ j, k = j + 1 := ⟨k - 1, by omega⟩
      rw [stars_eq, Option.bind_some]
      unfold renderL
      obtain ⟨n, hn⟩ : ∃ n : Nat, starsI m c = n := ⟨(starsI m c).toNat, by omega⟩
      obtain ⟨p, hp⟩ : ∃ p : Nat, placeI m c a = p := ⟨(placeI m c a).toNat, by omega⟩
      rw [hn, hp, Int.toNat_natCast]
      rw [hn, hp] at hst
      have e1 : ((⟨#[13]⟩ : ByteArray) ++ s).size = 1 + s.size := by rw [ByteArray.size_append]; rfl
      have hl := loop_stars c a n (by omega) s m r n 0 (k + 1 - n) ((⟨#[13]⟩ : ByteArray) ++ s) (by omega) (by omega)
      rw [show k + 1 - n + n = k + 1 by omega, show ((0 : Nat) : Int) = 0 from rfl] at hl
      rw [hl]
      obtain ⟨j, hj⟩ : ∃ j, k + 1 - n = j + 3 := ⟨k + 1 - n - 3, by omega⟩
      have e2 : (((⟨#[13]⟩ : ByteArray) ++ s) ++ ba (List.replicate n 42)).size = 1 + s.size + n := by rw [ByteArray.size_append, e1]; congr 1; show (List.replicate n (42 : UInt8)).toArray.size = n; simp
      rw [hj, whispererref13_Render.l0, if_neg (by omega), if_pos (by omega), place_eq, Option.bind_some, hp, wr64 (by omega) (by omega)]
      have e3 : ((((⟨#[13]⟩ : ByteArray) ++ s) ++ ba (List.replicate n 42)) ++ (⟨#[27, 91, 75]⟩ : ByteArray)).size = 4 + s.size + n := by rw [ByteArray.size_append, e2]; show 1 + s.size + n + 3 = _; omega
      by_cases hd : (n : Int) - (p : Int) > 0
      · obtain ⟨d, hd2⟩ : ∃ d : Nat, (n : Int) - (p : Int) = d := ⟨((n : Int) - p).toNat, by omega⟩
        have hil := Lib.itoa_length_le (d : Int) (by omega) (by omega)
        have e4 : (((((⟨#[13]⟩ : ByteArray) ++ s) ++ ba (List.replicate n 42)) ++ (⟨#[27, 91, 75]⟩ : ByteArray)) ++ (⟨#[27, 91]⟩ : ByteArray)).size = 6 + s.size + n := by rw [ByteArray.size_append, e3]; show 4 + s.size + n + 2 = _; omega
        have e5 : (ba (Lib.itoa (d : Int))).size = (Lib.itoa (d : Int)).length := by show (Lib.itoa (d : Int)).toArray.size = _; simp
        have e6 : ((((((⟨#[13]⟩ : ByteArray) ++ s) ++ ba (List.replicate n 42)) ++ (⟨#[27, 91, 75]⟩ : ByteArray)) ++ (⟨#[27, 91]⟩ : ByteArray)) ++ ba (Lib.itoa (d : Int))).size = 6 + s.size + n + (Lib.itoa (d : Int)).length := by rw [ByteArray.size_append, e4, e5]
        rw [if_pos hd, if_pos (by omega), hd2, dec10 _ d (by omega) (by omega), Option.bind_some, if_pos (by omega), if_pos (by omega)]
        congr 2
        apply ba_ext
        rw [nums_data]
        unfold backL
        rw [if_pos (by omega)]
        simp only [ba_app, data_ba, List.map_append, ints_back, itoaI_back, List.map_replicate, List.append_assoc]
        rfl
      · rw [if_neg hd]
        congr 2
        apply ba_ext
        rw [nums_data]
        unfold backL
        rw [if_neg (by omega)]
        simp only [ba_app, data_ba, List.map_append, ints_back, List.map_replicate, List.append_assoc, List.map_nil, List.append_nil]
        rfl
    · rw [if_neg hr, if_neg hr]
      exact ⟨_, _, rfl, rfl⟩
  · rw [if_neg hc, if_pos hc]
    exact ⟨_, _, rfl, rfl⟩

theorem ViewRenders (s : ByteArray) (m r c a : Int) : whispererlaw13_ViewRenders.f 5000 s m r c a = some true := by
  unfold whispererlaw13_ViewRenders.f
  by_cases h5 : (s.size : Int) > 2000
  · rw [if_pos h5, alive_of]
    rfl
  · rw [if_neg h5]
    obtain ⟨t, e, h1, h2⟩ := render_eq s m r c a (by omega) 5000 (by omega)
    have h3 : view_Check.f s m r = some (checkI s m r) := by unfold view_Check.f; rw [if_pos (by omega)]
    have h4 := rcheck_eq 5000 s m r (by omega) (by omega)
    have h6 := stars_eq 4999 m c
    have h7 := place_eq 4998 m c a
    simp only [h1, h2, Option.bind_some, alive_of, if_true, h3, h4, view_Stars.f, view_Place.f, h6, h7]
    simp

end Go.Proofs.YtoeaidhkohfaoaaDoor.Pure
namespace Go.Proofs.YtoeaidhkohfaoaaDoor.Hand
open Go.RowKit
set_option linter.unusedVariables false
theorem ViewRenders_walk (a0_0 : ByteArray) (a0_1 a0_2 a1 a2 : Int) (w0_1 : (Lit.int .i64 a0_1).wf = true) (w0_2 : (Lit.int .i64 a0_2).wf = true) (w1 : (Lit.int .i64 a1).wf = true) (w2 : (Lit.int .i64 a2).wf = true) (w : World) (HT : TabV w) :
    Calls Tryd.prog 3 #[.agg #[.string a0_0, .int .i64 a0_1, .int .i64 a0_2], .int .i64 a1, .int .i64 a2] w fun e w' => e = .returned (.bool true) ∧ Below w.heap.size w w' :=
  PViewRenders.whispererlaw13_ViewRenders.calls 5000 a0_0 a0_1 a0_2 a1 a2 true w HT (Pure.ViewRenders a0_0 a0_1 a0_2 a1 a2)
end Go.Proofs.YtoeaidhkohfaoaaDoor.Hand
