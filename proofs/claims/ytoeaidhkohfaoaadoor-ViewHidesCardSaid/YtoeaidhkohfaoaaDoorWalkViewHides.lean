/- ViewHides: what is shown hangs on the prompt, the mode and the two numbers alone. -/
import Derived.Test.YtoeaidhkohfaoaaDoorPViewHidesx2
import Derived.Test.YtoeaidhkohfaoaaDoorHandTabOf13
import Derived.Test.YtoeaidhkohfaoaaDoorHandPlain
namespace Go.Proofs.YtoeaidhkohfaoaaDoor.Pure
open Go.RowKit Go.Proofs.YtoeaidhkohfaoaaDoor.PViewHides Go.Proofs.YtoeaidhkohfaoaaDoor.Hand Go.Proofs.YtoeaidhkohfaoaaDoorW.PrintWords Go.Proofs.YtoeaidhkohfaoaaDoorW.PrintLast
set_option linter.unusedVariables false
set_option linter.unusedSimpArgs false

theorem alive_of (k : Nat) : whispererlaw13_alive.f k = some true := by
  unfold whispererlaw13_alive.f view_Render.f
  have h1 : checkI (⟨#[112, 119, 58, 32]⟩ : ByteArray) 1 0 = 0 := by decide +kernel
  have h2 : checkI (⟨#[112, 119, 58, 32]⟩ : ByteArray) 2 0 = 0 := by decide +kernel
  have h3 : rightB 1 3 1 = true := by decide +kernel
  have h4 : rightB 2 3 1 = true := by decide +kernel
  have h5 : (strOfNums (renderL (⟨#[112, 119, 58, 32]⟩ : ByteArray) 1 3 1)).toList = ([13, 112, 119, 58, 32, 42, 42, 42, 27, 91, 75, 27, 91, 50, 68] : List UInt8) := by decide +kernel
  have h6 : (strOfNums (renderL (⟨#[112, 119, 58, 32]⟩ : ByteArray) 2 3 1)).toList = ([13, 112, 119, 58, 32, 42, 42, 42, 42, 42, 42, 42, 42, 27, 91, 75] : List UInt8) := by decide +kernel
  have hs : (⟨#[112, 119, 58, 32]⟩ : ByteArray).size ≤ 9223372036854775807 := by decide
  rw [if_pos hs, if_pos hs, h1, h2, h3, h4]
  simp [h5, h6]
theorem rightB_eq (m c a : Int) : rightB m c a = true ↔ 0 ≤ m ∧ m < 3 ∧ 0 ≤ a ∧ a ≤ c ∧ c ≤ 1024 := by
  unfold rightB
  simp only [Bool.and_eq_true, decide_eq_true_eq]
  omega
theorem wr64 {x : Int} (h0 : -9223372036854775808 ≤ x) (h1 : x ≤ 9223372036854775807) : wrap64 x = x := by unfold wrap64; omega
theorem itoa4 (d : Int) (h0 : 0 ≤ d) (h1 : d ≤ 1024) : (Lib.itoa d).length ≤ 4 := by
  rw [itoa_nat h0, ← digs_dec]
  exact digs_len (by omega) (by omega) (by omega) (by omega)
theorem back_len (d : Int) (h1 : d ≤ 1024) : (backL d).length ≤ 7 := by
  unfold backL
  split
  · have := itoa4 d (by omega) h1
    have : (itoaI d).length = (Lib.itoa d).length := by unfold itoaI; rw [List.length_map]
    simp
    omega
  · simp
theorem render_len (s : ByteArray) (i n p : Int) (hst : 0 ≤ starsI i n) (hd : starsI i n - placeI i n p ≤ 1024) : ((renderL s i n p).length : Int) ≤ s.size + starsI i n + 20 := by
  have := back_len _ hd
  unfold renderL
  simp only [List.length_append, bytesOf_length, List.length_replicate, List.length_cons, List.length_nil]
  omega
theorem stars_of {i n p : Int} (h : 0 ≤ i ∧ i < 3 ∧ 0 ≤ p ∧ p ≤ n ∧ n ≤ 1024) : starsI i n = (if i = 0 then 0 else if i = 1 then n else if n = 0 then 0 else 8) ∧ placeI i n p = (if i = 0 then 0 else if i = 1 then p else if n = 0 then 0 else 8) := by
  unfold starsI placeI
  rw [if_pos ((rightB_eq _ _ _).2 (by omega)), if_pos ((rightB_eq _ _ _).2 (by omega))]
  exact ⟨rfl, rfl⟩
theorem itoaI_byte (d : Int) : ∀ x ∈ itoaI d, 0 ≤ x ∧ x ≤ 255 := by
  intro x hx
  obtain ⟨b, _, rfl⟩ := List.mem_map.1 hx
  have := b.toNat_lt
  omega
theorem render_byte (s : ByteArray) (i n p : Int) : ∀ x ∈ renderL s i n p, 0 ≤ x ∧ x ≤ 255 := by
  intro x hx
  unfold renderL backL at hx
  simp only [List.mem_append] at hx
  rcases hx with (((h | h) | h) | h) | h
  · simp at h; omega
  · obtain ⟨b, _, rfl⟩ := List.mem_map.1 h
    have := b.toNat_lt
    omega
  · have := List.eq_of_mem_replicate h
    omega
  · simp at h; omega
  · split at h
    · simp only [List.mem_append] at h
      rcases h with (h | h) | h
      · simp at h; omega
      · exact itoaI_byte _ x h
      · simp at h; omega
    · cases h
theorem rep_cancel : ∀ (a b : Nat) (x y : List Int), List.replicate a (42 : Int) ++ 27 :: x = List.replicate b 42 ++ 27 :: y → a = b ∧ x = y
  | 0, 0, x, y, h => by simpa using h
  | 0, b + 1, x, y, h => by simp [List.replicate_succ] at h
  | a + 1, 0, x, y, h => by simp [List.replicate_succ] at h
  | a + 1, b + 1, x, y, h => by
    rw [List.replicate_succ, List.replicate_succ] at h
    simp only [List.cons_append, List.cons.injEq, true_and] at h
    have := rep_cancel a b x y h
    exact ⟨by omega, this.2⟩
theorem itoaI_inj {a b : Int} (ha : 0 ≤ a) (hb : 0 ≤ b) (h : itoaI a = itoaI b) : a = b := by
  refine itoa_inj ha hb ?_
  have e (d : Int) : (itoaI d).map (fun n => UInt8.ofNat n.toNat) = Lib.itoa d := by
    unfold itoaI
    rw [List.map_map]
    have : ((fun n : Int => UInt8.ofNat n.toNat) ∘ fun b : UInt8 => (b.toNat : Int)) = id := by
      funext b
      simp
    rw [this, List.map_id]
  rw [← e a, ← e b, h]
theorem render_diff {s : ByteArray} {n m p q : Int} (hn : 0 ≤ p ∧ p ≤ n ∧ n ≤ 1024) (hm : 0 ≤ q ∧ q ≤ m ∧ m ≤ 1024) (h : renderL s 1 n p = renderL s 1 m q) : n = m ∧ p = q := by
  have s1 := stars_of (i := 1) (n := n) (p := p) (by omega)
  have s2 := stars_of (i := 1) (n := m) (p := q) (by omega)
  rw [if_neg (by decide), if_pos rfl, if_neg (by decide), if_pos rfl] at s1 s2
  unfold renderL at h
  rw [s1.1, s1.2, s2.1, s2.2] at h
  simp only [List.append_assoc] at h
  have h := List.append_cancel_left h
  have h := List.append_cancel_left h
  obtain ⟨h1, h2⟩ := rep_cancel _ _ _ _ h
  have hnm : n = m := by omega
  refine ⟨hnm, ?_⟩
  have h3 : backL (n - p) = backL (m - q) := by simpa using h2
  unfold backL at h3
  by_cases c1 : 0 < n - p
  · rw [if_pos c1] at h3
    by_cases c2 : 0 < m - q
    · rw [if_pos c2] at h3
      have h4 := List.append_cancel_right h3
      have h5 := List.append_cancel_left h4
      have := itoaI_inj (by omega) (by omega) h5
      omega
    · rw [if_neg c2] at h3
      simp at h3
  · rw [if_neg c1] at h3
    by_cases c2 : 0 < m - q
    · rw [if_pos c2] at h3
      simp at h3
    · omega

section
variable (k : Nat) (s : ByteArray) (n m p q i e : Int) (t1 t2 : List Int)
theorem hides_j2 (h : e = 0 → i = 1 → ¬ (n = m ∧ p = q) → ¬ (strOfNums t1).toList = (strOfNums t2).toList) (hi : 0 ≤ i ∧ i < 3) :
    whispererlaw13_ViewHides.j2 (k + 1) s n m p q i t1 e t2 [0, 1, 2] 3 i false = whispererlaw13_ViewHides.l0 k s n m p q [0, 1, 2] 3 (i + 1) := by
  rw [whispererlaw13_ViewHides.j2, if_neg (by decide), wr64 (by omega) (by omega)]
  by_cases c1 : e = 0
  · rw [if_pos c1]
    by_cases c2 : i = 1
    · rw [if_pos c2]
      by_cases c3 : n = m
      · rw [if_pos c3]
        by_cases c4 : p = q
        · rw [if_pos c4]
        · rw [if_neg c4, if_neg (h c1 c2 (fun x => c4 x.2))]
      · rw [if_neg c3, if_neg (h c1 c2 (fun x => c3 x.1))]
    · rw [if_neg c2]
  · rw [if_neg c1]
theorem hides_j1 (b : Bool) (hb : b = true → t1 = t2) (he : e ≠ 0 → t1 = []) (hl : (t1.length : Int) ≤ s.size + starsI i n + 20) (hs : s.size ≤ 2000) (hst : 0 ≤ starsI i n ∧ starsI i n ≤ 1024)
    (h : e = 0 → i = 1 → ¬ (n = m ∧ p = q) → ¬ (strOfNums t1).toList = (strOfNums t2).toList) (hi : 0 ≤ i ∧ i < 3) :
    whispererlaw13_ViewHides.j1 (k + 2) s n m p q i t1 e t2 b [0, 1, 2] 3 i = whispererlaw13_ViewHides.l0 k s n m p q [0, 1, 2] 3 (i + 1) := by
  have hj := hides_j2 k s n m p q i e t1 t2 h hi
  have w : wrap64 (wrap64 ((s.size : Int) + starsI i n) + 20) = s.size + starsI i n + 20 := by rw [wr64 (x := (s.size : Int) + starsI i n) (by omega) (by omega), wr64 (by omega) (by omega)]
  have d : decide ((t1.length : Int) > wrap64 (wrap64 ((s.size : Int) + starsI i n) + 20)) = false := by rw [w]; exact decide_eq_false (by omega)
  rw [whispererlaw13_ViewHides.j1]
  unfold view_Stars.f
  simp only [Option.bind_some, d, hj]
  by_cases c : b = true
  · rw [if_pos c, if_pos (by rw [hb c])]
    by_cases c1 : e = 0
    · rw [if_pos c1]
    · rw [if_neg c1, if_neg (by rw [he c1]; decide)]
  · rw [if_neg c]
    by_cases c1 : e = 0
    · rw [if_pos c1]
    · rw [if_neg c1, if_neg (by rw [he c1]; decide)]
end

theorem check_room (s : ByteArray) (i n m : Int) (hn : 0 ≤ n) (hm : 0 ≤ m) : checkI s i n = checkI s i m := by
  unfold checkI
  rw [if_neg (show ¬ n < 0 by omega), if_neg (show ¬ m < 0 by omega)]
theorem hides_step (k : Nat) (s : ByteArray) (n m p q i : Int) (hs : s.size ≤ 2000) (hn : 0 ≤ p ∧ p ≤ n ∧ n ≤ 1024) (hm : 0 ≤ q ∧ q ≤ m ∧ m ≤ 1024) (hi : i = 0 ∨ i = 1 ∨ i = 2) :
    whispererlaw13_ViewHides.l0 (k + 3) s n m p q [0, 1, 2] 3 i = whispererlaw13_ViewHides.l0 k s n m p q [0, 1, 2] 3 (i + 1) := by
  have hrd : rd ([0, 1, 2] : List Int) i = i := by rcases hi with rfl | rfl | rfl <;> rfl
  have hi3 : 0 ≤ i ∧ i < 3 := by omega
  have r1 : rightB i n p = true := (rightB_eq _ _ _).2 (by omega)
  have r2 : rightB i m q = true := (rightB_eq _ _ _).2 (by omega)
  have s1 := stars_of (i := i) (n := n) (p := p) (by omega)
  have s2 := stars_of (i := i) (n := m) (p := q) (by omega)
  have b1 : 0 ≤ starsI i n ∧ starsI i n ≤ 1024 ∧ starsI i n - placeI i n p ≤ 1024 := by
    rw [s1.1, s1.2]
    rcases hi with rfl | rfl | rfl
    · simp
    · simp; omega
    · simp; split <;> omega
  obtain ⟨t1, t2, e, h1, h2, he, hl, hd, hsame⟩ : ∃ t1 t2 e, view_Render.f (k + 2) s i n n p = some (t1, e) ∧ view_Render.f (k + 2) s i m m q = some (t2, e) ∧ (e ≠ 0 → t1 = []) ∧ ((t1.length : Int) ≤ s.size + starsI i n + 20) ∧
      (e = 0 → i = 1 → ¬ (n = m ∧ p = q) → ¬ (strOfNums t1).toList = (strOfNums t2).toList) ∧ (i = 0 ∨ (i = 2 ∧ (0 < n ↔ 0 < m)) ∨ (i = 1 ∧ n = m ∧ p = q) → t1 = t2) := by
    unfold view_Render.f
    have hs63 : s.size ≤ 9223372036854775807 := by omega
    rw [if_pos hs63, if_pos hs63, check_room s i m n (by omega) (by omega), if_pos r1, if_pos r2]
    by_cases hc : checkI s i n = 0
    · rw [if_neg (fun h => h hc), if_neg (fun h => h hc)]
      refine ⟨_, _, _, rfl, rfl, fun h => absurd rfl h, render_len s i n p b1.1 b1.2.2, fun _ h1 hne heq => ?_, fun h => ?_⟩
      · subst h1
        rw [ByteArray.toList_eq, ByteArray.toList_eq] at heq
        exact hne (render_diff hn hm (nums_inj (render_byte _ _ _ _) (render_byte _ _ _ _) (ba_ext heq)))
      · unfold renderL
        have : starsI i n = starsI i m ∧ placeI i n p = placeI i m q := by
          rw [s1.1, s1.2, s2.1, s2.2]
          rcases h with rfl | ⟨rfl, h⟩ | ⟨rfl, rfl, rfl⟩
          · simp
          · by_cases z : n = 0
            · have : m = 0 := by omega
              simp [z, this]
            · have : m ≠ 0 := by omega
              simp [z, this]
          · simp
        rw [this.1, this.2]
    · rw [if_pos hc, if_pos hc]
      refine ⟨_, _, _, rfl, rfl, fun _ => rfl, by simp; omega, fun h => absurd h hc, fun _ => rfl⟩
  have fin (b : Bool) (hb : b = true → t1 = t2) := hides_j1 k s n m p q i e t1 t2 b hb he hl hs ⟨b1.1, b1.2.1⟩ hd hi3
  rw [whispererlaw13_ViewHides.l0, if_pos (by omega), if_pos (by omega), if_pos (by show i < 3; omega), hrd]
  rw [h1, h2, Option.bind_some, Option.bind_some, if_pos rfl]
  simp only
  by_cases c0 : i = 0
  · rw [if_pos c0]
    exact fin true (fun _ => hsame (.inl c0))
  · rw [if_neg c0]
    have one : (if i = 1 then (if n = m then (whispererlaw13_ViewHides.j1 (k + 2) s n m p q i t1 e t2 (p == q) [0, 1, 2] 3 i) else (whispererlaw13_ViewHides.j1 (k + 2) s n m p q i t1 e t2 false [0, 1, 2] 3 i)) else (whispererlaw13_ViewHides.j1 (k + 2) s n m p q i t1 e t2 false [0, 1, 2] 3 i)) = whispererlaw13_ViewHides.l0 k s n m p q [0, 1, 2] 3 (i + 1) := by
      have no := fin false (fun h => by cases h)
      by_cases c1 : i = 1
      · rw [if_pos c1]
        by_cases c2 : n = m
        · rw [if_pos c2]
          exact fin (p == q) (fun h => hsame (.inr (.inr ⟨c1, c2, by simpa using h⟩)))
        · rw [if_neg c2]
          exact no
      · rw [if_neg c1]
        exact no
    by_cases c2 : i = 2
    · rw [if_pos c2]
      by_cases c3 : ((decide (n > 0)) == (decide (m > 0))) = true
      · rw [if_pos c3]
        refine fin true (fun _ => hsame (.inr (.inl ⟨c2, ?_⟩)))
        have := beq_iff_eq.1 c3
        simpa using decide_eq_decide.1 this
      · rw [if_neg c3]
        exact one
    · rw [if_neg c2]
      exact one

theorem u64_nonneg (x : Int) : 0 ≤ IntKind.u64.wrap x ∧ IntKind.u64.wrap x < 18446744073709551616 := by
  unfold IntKind.wrap
  simp [IntKind.bits, IntKind.signed]
  omega
theorem u64_id {x : Int} (h0 : 0 ≤ x) (h1 : x < 18446744073709551616) : IntKind.u64.wrap x = x := by
  unfold IntKind.wrap
  simp [IntKind.bits, IntKind.signed]
  omega
theorem ViewHides (s : ByteArray) (a b c d : Int) : whispererlaw13_ViewHides.f 20 s a b c d = some true := by
  unfold whispererlaw13_ViewHides.f
  by_cases h5 : (s.size : Int) > 2000
  · rw [if_pos h5, alive_of]
    rfl
  · rw [if_neg h5]
    have ua := u64_nonneg a
    have ub := u64_nonneg b
    have uc := u64_nonneg c
    have ud := u64_nonneg d
    generalize IntKind.u64.wrap a = a' at *
    generalize IntKind.u64.wrap b = b' at *
    generalize IntKind.u64.wrap c = c' at *
    generalize IntKind.u64.wrap d = d' at *
    have wa : wrap64 (Int.tmod a' 1025) = a' % 1025 := by rw [Int.tmod_eq_emod_of_nonneg ua.1]; exact wr64 (by omega) (by omega)
    have wc : wrap64 (Int.tmod c' 1025) = c' % 1025 := by rw [Int.tmod_eq_emod_of_nonneg uc.1]; exact wr64 (by omega) (by omega)
    rw [wa, wc, wr64 (x := a' % 1025 + 1) (by omega) (by omega), wr64 (x := c' % 1025 + 1) (by omega) (by omega), u64_id (x := a' % 1025 + 1) (by omega) (by omega), u64_id (x := c' % 1025 + 1) (by omega) (by omega)]
    have hn : 0 ≤ a' % 1025 ∧ a' % 1025 ≤ 1024 := by omega
    have hm : 0 ≤ c' % 1025 ∧ c' % 1025 ≤ 1024 := by omega
    generalize a' % 1025 = n at *
    generalize c' % 1025 = m at *
    have p1 := Int.emod_nonneg b' (show n + 1 ≠ 0 by omega)
    have p2 := Int.emod_lt_of_pos b' (show 0 < n + 1 by omega)
    have q1 := Int.emod_nonneg d' (show m + 1 ≠ 0 by omega)
    have q2 := Int.emod_lt_of_pos d' (show 0 < m + 1 by omega)
    rw [if_neg (by omega), if_neg (by omega), Option.bind_some, Int.tmod_eq_emod_of_nonneg ub.1, Int.tmod_eq_emod_of_nonneg ud.1, wr64 (x := b' % (n + 1)) (by omega) (by omega), wr64 (x := d' % (m + 1)) (by omega) (by omega)]
    generalize b' % (n + 1) = p at *
    generalize d' % (m + 1) = q at *
    have st (k : Nat) (i : Int) (hi : i = 0 ∨ i = 1 ∨ i = 2) := hides_step k s n m p q i (by omega) (by omega) (by omega) hi
    show whispererlaw13_ViewHides.l0 (17 + 3) s n m p q [0, 1, 2] 3 0 = some true
    rw [st 17 0 (by omega), show (17 : Nat) = 14 + 3 from rfl, show (0 : Int) + 1 = 1 from rfl, st 14 1 (by omega), show (14 : Nat) = 11 + 3 from rfl, show (1 : Int) + 1 = 2 from rfl, st 11 2 (by omega), show (2 : Int) + 1 = 3 from rfl]
    rw [whispererlaw13_ViewHides.l0, if_neg (by omega), alive_of]
    rfl

end Go.Proofs.YtoeaidhkohfaoaaDoor.Pure
namespace Go.Proofs.YtoeaidhkohfaoaaDoor.Hand
open Go.RowKit
set_option linter.unusedVariables false
theorem ViewHides_walk (a0 : ByteArray) (a1_0 a1_1 a2_0 a2_1 : Int) (w0 : a0.size ≤ 140737488351232) (w1_0 : (Lit.int .i64 a1_0).wf = true) (w1_1 : (Lit.int .i64 a1_1).wf = true) (w2_0 : (Lit.int .i64 a2_0).wf = true) (w2_1 : (Lit.int .i64 a2_1).wf = true) (w : World) (HT : TabV w) :
    Calls Tryd.prog 4 #[.string a0, .agg #[.int .i64 a1_0, .int .i64 a1_1], .agg #[.int .i64 a2_0, .int .i64 a2_1]] w fun e w' => e = .returned (.bool true) ∧ Below w.heap.size w w' :=
  PViewHides.whispererlaw13_ViewHides.calls 20 a0 a1_0 a1_1 a2_0 a2_1 true w HT (Pure.ViewHides a0 a1_0 a1_1 a2_0 a2_1)
end Go.Proofs.YtoeaidhkohfaoaaDoor.Hand
