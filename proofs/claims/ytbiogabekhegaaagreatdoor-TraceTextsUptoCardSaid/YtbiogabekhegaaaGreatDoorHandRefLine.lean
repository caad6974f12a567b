/- The document's Line. -/
import Derived.Test.YtbiogabekhegaaaGreatDoorHandRef07
import Derived.Test.YtbiogabekhegaaaGreatDoorPlainBack07
namespace Go.Proofs.YtbiogabekhegaaaGreatDoor.Hand
open Go.RowKit Go.Proofs.YtbiogabekhegaaaGreatDoorW.PrintWords Go.Proofs.YtbiogabekhegaaaGreatDoorW.PrintLast
open Go.Proofs.YtbiogabekhegaaaGreatDoor.PWritten (S27 S25 k27 z27 rd_T27 at_T27 k27_mk)
attribute [local go_sem high] Go.Proofs.YtbiogabekhegaaaGreatDoor.Psame.eqA25
set_option linter.unusedVariables false
set_option linter.unusedSimpArgs false
theorem bad_line (k : Nat) (hk7 : k < 7) (x : S27) (hk : x.f0 = (k : Nat)) (hn : ¬ Bare k x) : lineR x = (⟨#[]⟩, 8) := by
  have hne : (lineR x).2 ≠ 0 := fun h => by
    obtain ⟨j, hj, hb, _⟩ := Bare.of x h
    have e : j = k := by have := hb.kk; omega
    subst e
    exact hn hb
  unfold lineR at hne ⊢
  rw [if_neg (by omega)] at hne ⊢
  by_cases h2 : x.f3 < 0 ∨ sameE x (bareE x) = false
  · rw [if_pos h2]
  · rw [if_neg h2] at hne
    exact absurd rfl hne
theorem dec_ok (n : Int) (w : World) (h0 : 0 ≤ n) (h1 : n ≤ 9223372036854775807) : Calls Tryz.prog 27 #[.int .i64 n, .int .i64 10] w fun e w' => e = .returned (.string (itoaB n)) ∧ Below w.heap.size w w' := by
  obtain ⟨u, rfl⟩ := Int.eq_ofNat_of_zero_le h0
  have hf := dec_up 10 u 100 (by omega) (by omega) (by omega) 20 (digs_len (by omega) (by omega) (by omega) (Nat.lt_of_lt_of_le (show u < 9223372036854775808 by omega) (by decide))) (by omega) (by omega)
  have e : ba (digs 10 u) = itoaB (u : Int) := by
    apply ba_ext
    rw [data_ba, itoaB_data, itoa_dec, digs_dec]
  rw [e] at hf
  refine (PDecimal.whispererref06_Decimal.calls 100 (u : Int) 10 _ w hf).mono ?_
  rintro e w' ⟨rfl, hd⟩
  exact ⟨rfl, hd.below⟩
theorem refText_ok (a b c : Int) (h : inA a b c = true) (w : World) : Calls Tryz.prog 29 #[.agg #[.int .u32 a, .int .u8 b, .int .u8 c]] w fun e w' => e = .returned (.string (textI a b c)) ∧ Below w.heap.size w w' := by
  obtain ⟨h1, h2, h3, h4, h5, h6⟩ := (inA_iff _ _ _).1 h
  have hf := ref_text a.toNat b.toNat c.toNat (by omega) (by omega) (by omega) 100 (by omega)
  rw [show ((a.toNat : Nat) : Int) = a by omega, show ((b.toNat : Nat) : Int) = b by omega, show ((c.toNat : Nat) : Int) = c by omega] at hf
  exact PRead.whispererref06_Text.calls 100 a b c _ w hf
theorem went_ok (b : Bool) (w : World) : Calls Tryz.prog 28 #[.bool b] w fun e w' => e = .returned (.string (if b = true then okW else failW)) ∧ w' = w := by
  cases b
  all_goals
    go_enter Tryz.func28, Tryz.ntmps28
    go_wp2_with (fail)
    go_ret
    exact ⟨rfl, rfl⟩
theorem lineB_data (k : Nat) (x : S27) : (lineB k x).data.toList = joinB 32 ((lineW k x).map (·.data.toList)) := by
  unfold lineB
  rw [libjoin_eq]
theorem line_w01 (k : Nat) (hk : k < 2) (x : S27) (b : Bool) (hb : x.f4 = b) {P : ByteArray} (hP : P.data.toList = (kWord k).data.toList ++ [32]) : lineB k x = P ++ (if b = true then okW else failW) ++ (⟨#[32]⟩ : ByteArray) ++ textI x.f1.f0 x.f1.f1 x.f1.f2 := by
  subst hb
  apply ba_ext
  rw [lineB_data]
  obtain rfl | rfl : k = 0 ∨ k = 1 := by omega
  all_goals simp [lineW, wrK, kWent, kMore, joinB, ba_app, hP]
theorem line_w2 (x : S27) (b : Bool) (hb : x.f4 = b) {P : ByteArray} (hP : P.data.toList = (kWord 2).data.toList ++ [32]) : lineB 2 x = P ++ (if b = true then okW else failW) ++ (⟨#[32]⟩ : ByteArray) ++ hexB x.f2 ++ (⟨#[32]⟩ : ByteArray) ++ itoaB x.f3 := by
  subst hb
  apply ba_ext
  rw [lineB_data]
  simp [lineW, wrK, kWent, kMore, joinB, ba_app, hP]
theorem line_w3 (x : S27) (b : Bool) (hb : x.f4 = b) {P : ByteArray} (hP : P.data.toList = (kWord 3).data.toList ++ [32]) : lineB 3 x = P ++ (if b = true then okW else failW) ++ (⟨#[32]⟩ : ByteArray) ++ itoaB x.f3 := by
  subst hb
  apply ba_ext
  rw [lineB_data]
  simp [lineW, wrK, kWent, kMore, joinB, ba_app, hP]
theorem line_w4 (x : S27) : lineB 4 x = (⟨#[115, 105, 103, 110, 97, 108, 32]⟩ : ByteArray) ++ itoaB x.f3 := by
  apply ba_ext
  rw [lineB_data]
  simp [lineW, wrK, kWent, kMore, joinB, ba_app]
  rfl
theorem hexB_le (l : List Int) (h : l.length ≤ 1000000000) : (hexB l).size ≤ 2000000001 := by
  unfold hexB
  split
  · decide
  · rw [Lib.size_eq]
    show (hexL l).length ≤ _
    rw [hexL_length]
    omega
set_option maxHeartbeats 8000000 in
set_option maxRecDepth 100000 in
theorem refLine_0 (x : S27) (A : Option Addr) (c : Nat) (w : World) (hk : x.f0 = ((0 : Nat) : Int)) (hx : EffWr x) (hC : Kd.C (Kd.int .u8) w A x.f2.length x.f2) :
    Calls Tryz.prog 12 #[.agg (effV x A c)] w fun e w' => e = .returned (.tuple #[.string (lineR x).1, .int .i64 (lineR x).2]) ∧ Below w.heap.size w w' := by
  obtain ⟨xk, ⟨xf, xm, xt⟩, xd, xn, xo⟩ := x
  simp only at hk hC
  subst hk
  have hbad := Aside0.mk (bad_line 0 (by decide) ⟨((0 : Nat) : Int), ⟨xf, xm, xt⟩, xd, xn, xo⟩ rfl)
  have hb0 := Aside0.mk ((Below.refl _ w).alloc (Nat.le_refl _) (.cells (effV ⟨((0 : Nat) : Int), ⟨xf, xm, xt⟩, xd, xn, xo⟩ A c) 27))
  have hxA := Aside0.mk hx
  have hCA := Aside0.mk (Kd.C_below hC hb0.out)
  clear hx hC
  by_cases hd : (0 : Int) < (xd.length : Int)
  · have hr := hbad.out (fun h => by have e : xd = [] := h.d (by decide); rw [e] at hd; exact absurd hd (by decide))
    have hdE : ¬ xd = [] := fun e => by rw [e] at hd; exact absurd hd (by decide)
    have hrA := Aside0.mk hr
    clear hr hbad
    go_enter Tryz.func12, Tryz.ntmps12
    go_wp2_with (fail)
    go_ret2
    rw [hrA.out]
    exact ⟨rfl, hb0.out.alloc hb0.out.size _⟩
  · obtain rfl : xd = [] := List.eq_nil_of_length_eq_zero (by omega)
    clear hd
    have z0 : ([] : List Int).length = 0 := rfl
    by_cases hn : (xn != 0) = true
    · have hr := hbad.out (fun h => by have e : xn = 0 := h.n (by decide); rw [e] at hn; exact absurd hn (by decide))
      have hnE : ¬ xn = 0 := fun e => by rw [e] at hn; exact absurd hn (by decide)
      have hrA := Aside0.mk hr
      clear hr hbad
      go_enter Tryz.func12, Tryz.ntmps12
      go_wp2_with (fail)
      go_ret2
      rw [hrA.out]
      exact ⟨rfl, hb0.out.alloc hb0.out.size _⟩
    · obtain rfl : xn = 0 := by simpa using hn
      clear hn
      have hB : Bare 0 ⟨((0 : Nat) : Int), ⟨xf, xm, xt⟩, [], 0, xo⟩ := ⟨rfl, fun h => (by first | exact absurd (by decide) h | rfl), fun h => (by first | exact absurd rfl h | rfl), fun h => (by first | exact absurd (by decide) h | rfl), fun h => (by first | exact absurd (by decide) h | rfl), (by first | exact Int.le_refl _ | (show 0 ≤ xn; omega))⟩
      have hrA := Aside0.mk (hB.line (by decide))
      have hBA := Aside0.mk hB
      have hD := fun W => dec_ok 0 W hB.p hxA.out.n1
      clear hbad hB
      have hL : lineB 0 ⟨((0 : Nat) : Int), ⟨xf, xm, xt⟩, [], 0, xo⟩ = (⟨#[103, 111, 116, 32]⟩ : ByteArray) ++ (if xo = true then okW else failW) ++ (⟨#[32]⟩ : ByteArray) ++ textI xf xm xt := line_w01 0 (by decide) _ xo rfl (by decide)
      have hG := fun W => went_ok xo W
      have hw4 : (if xo = true then okW else failW).size ≤ 4 := by cases xo <;> decide
      generalize (if xo = true then okW else failW) = W0 at *
      have hT := fun W => refText_ok xf xm xt hxA.out.i W
      have ht : (textI xf xm xt).size ≤ 2000 := textI_size _ _ _ hxA.out.i
      generalize textI xf xm xt = T at *
      have hq7 : 4 + W0.size ≤ 9223372036854775807 := by omega
      have hq11 : 4 + W0.size + 1 ≤ 9223372036854775807 := by omega
      have hq20 : 4 + W0.size + 1 + T.size ≤ 9223372036854775807 := by omega
      have hLA := Aside0.mk hL
      clear hL
      go_enter Tryz.func12, Tryz.ntmps12
      go_wp2_with (fail)
      refine (hD _).mono ?_
      rintro e w2 ⟨rfl, hb2⟩
      have h1 := hb0.out.alloc hb0.out.size (.cells #[.int .u32 0, .int .u8 0, .int .u8 0] 25)
      have hz1 : (w.alloc (.cells (effV ⟨((0 : Nat) : Int), ⟨xf, xm, xt⟩, [], 0, xo⟩ A c) 27)).heap.size = w.heap.size + 1 := by simp
      have hB2 := Aside0.mk (h1.trans (hb2.mono h1.size))
      have hE2 := Aside0.mk ((hb2.block w.heap.size (by simp; omega)).trans ((heap_alloc_old _ _ (by simp)).trans (heap_alloc_new w (.cells (effV ⟨((0 : Nat) : Int), ⟨xf, xm, xt⟩, [], 0, xo⟩ A c) 27))))
      have hC2 := Aside0.mk (Kd.C_below (Kd.C_below hCA.out ((Below.refl _ _).alloc (Nat.le_refl _) (.cells #[.int .u32 0, .int .u8 0, .int .u8 0] 25))) hb2)
      obtain ⟨m0, m1, m2, m3, m4, m5, m6⟩ := effV_cells hE2.out
      simp only at m0 m1 m2 m3 m4 m5 m6
      clear hb2 h1 hz1 hb0 hCA hD
      go_upto_region 11 with (fail)
      go_region_with (first
        | (go_at_call 28; refine (hG _).mono ?_; rintro e w4 ⟨rfl, rfl⟩)
        | (go_at_call 29; refine (hT _).mono ?_; rintro e w5 ⟨rfl, hb5⟩; have hE5 := Aside0.mk ((hb5.block w.heap.size (blk_lt hE2.out)).trans hE2.out); obtain ⟨p0, p1, p2, p3, p4, p5, p6⟩ := effV_cells hE5.out; simp only at p0 p1 p2 p3 p4 p5 p6))
      all_goals
        go_wp2_with (fail)
        go_ret2
        rw [hrA.out, hLA.out]
        exact ⟨rfl, by first | exact (below_drew1 hB2.out).trans (hb5.mono (below_drew1 hB2.out).size) | exact hB2.out.trans (hb5.mono hB2.out.size)⟩
set_option maxHeartbeats 8000000 in
set_option maxRecDepth 100000 in
theorem refLine_1 (x : S27) (A : Option Addr) (c : Nat) (w : World) (hk : x.f0 = ((1 : Nat) : Int)) (hx : EffWr x) (hC : Kd.C (Kd.int .u8) w A x.f2.length x.f2) :
    Calls Tryz.prog 12 #[.agg (effV x A c)] w fun e w' => e = .returned (.tuple #[.string (lineR x).1, .int .i64 (lineR x).2]) ∧ Below w.heap.size w w' := by
  obtain ⟨xk, ⟨xf, xm, xt⟩, xd, xn, xo⟩ := x
  simp only at hk hC
  subst hk
  have hbad := Aside0.mk (bad_line 1 (by decide) ⟨((1 : Nat) : Int), ⟨xf, xm, xt⟩, xd, xn, xo⟩ rfl)
  have hb0 := Aside0.mk ((Below.refl _ w).alloc (Nat.le_refl _) (.cells (effV ⟨((1 : Nat) : Int), ⟨xf, xm, xt⟩, xd, xn, xo⟩ A c) 27))
  have hxA := Aside0.mk hx
  have hCA := Aside0.mk (Kd.C_below hC hb0.out)
  clear hx hC
  by_cases hd : (0 : Int) < (xd.length : Int)
  · have hr := hbad.out (fun h => by have e : xd = [] := h.d (by decide); rw [e] at hd; exact absurd hd (by decide))
    have hdE : ¬ xd = [] := fun e => by rw [e] at hd; exact absurd hd (by decide)
    have hrA := Aside0.mk hr
    clear hr hbad
    go_enter Tryz.func12, Tryz.ntmps12
    go_wp2_with (fail)
    go_ret2
    rw [hrA.out]
    exact ⟨rfl, hb0.out.alloc hb0.out.size _⟩
  · obtain rfl : xd = [] := List.eq_nil_of_length_eq_zero (by omega)
    clear hd
    have z0 : ([] : List Int).length = 0 := rfl
    by_cases hn : (xn != 0) = true
    · have hr := hbad.out (fun h => by have e : xn = 0 := h.n (by decide); rw [e] at hn; exact absurd hn (by decide))
      have hnE : ¬ xn = 0 := fun e => by rw [e] at hn; exact absurd hn (by decide)
      have hrA := Aside0.mk hr
      clear hr hbad
      go_enter Tryz.func12, Tryz.ntmps12
      go_wp2_with (fail)
      go_ret2
      rw [hrA.out]
      exact ⟨rfl, hb0.out.alloc hb0.out.size _⟩
    · obtain rfl : xn = 0 := by simpa using hn
      clear hn
      have hB : Bare 1 ⟨((1 : Nat) : Int), ⟨xf, xm, xt⟩, [], 0, xo⟩ := ⟨rfl, fun h => (by first | exact absurd (by decide) h | rfl), fun h => (by first | exact absurd rfl h | rfl), fun h => (by first | exact absurd (by decide) h | rfl), fun h => (by first | exact absurd (by decide) h | rfl), (by first | exact Int.le_refl _ | (show 0 ≤ xn; omega))⟩
      have hrA := Aside0.mk (hB.line (by decide))
      have hBA := Aside0.mk hB
      have hD := fun W => dec_ok 0 W hB.p hxA.out.n1
      clear hbad hB
      have hL : lineB 1 ⟨((1 : Nat) : Int), ⟨xf, xm, xt⟩, [], 0, xo⟩ = (⟨#[119, 97, 115, 32]⟩ : ByteArray) ++ (if xo = true then okW else failW) ++ (⟨#[32]⟩ : ByteArray) ++ textI xf xm xt := line_w01 1 (by decide) _ xo rfl (by decide)
      have hG := fun W => went_ok xo W
      have hw4 : (if xo = true then okW else failW).size ≤ 4 := by cases xo <;> decide
      generalize (if xo = true then okW else failW) = W0 at *
      have hT := fun W => refText_ok xf xm xt hxA.out.i W
      have ht : (textI xf xm xt).size ≤ 2000 := textI_size _ _ _ hxA.out.i
      generalize textI xf xm xt = T at *
      have hq7 : 4 + W0.size ≤ 9223372036854775807 := by omega
      have hq11 : 4 + W0.size + 1 ≤ 9223372036854775807 := by omega
      have hq20 : 4 + W0.size + 1 + T.size ≤ 9223372036854775807 := by omega
      have hLA := Aside0.mk hL
      clear hL
      go_enter Tryz.func12, Tryz.ntmps12
      go_wp2_with (fail)
      refine (hD _).mono ?_
      rintro e w2 ⟨rfl, hb2⟩
      have h1 := hb0.out.alloc hb0.out.size (.cells #[.int .u32 0, .int .u8 0, .int .u8 0] 25)
      have hz1 : (w.alloc (.cells (effV ⟨((1 : Nat) : Int), ⟨xf, xm, xt⟩, [], 0, xo⟩ A c) 27)).heap.size = w.heap.size + 1 := by simp
      have hB2 := Aside0.mk (h1.trans (hb2.mono h1.size))
      have hE2 := Aside0.mk ((hb2.block w.heap.size (by simp; omega)).trans ((heap_alloc_old _ _ (by simp)).trans (heap_alloc_new w (.cells (effV ⟨((1 : Nat) : Int), ⟨xf, xm, xt⟩, [], 0, xo⟩ A c) 27))))
      have hC2 := Aside0.mk (Kd.C_below (Kd.C_below hCA.out ((Below.refl _ _).alloc (Nat.le_refl _) (.cells #[.int .u32 0, .int .u8 0, .int .u8 0] 25))) hb2)
      obtain ⟨m0, m1, m2, m3, m4, m5, m6⟩ := effV_cells hE2.out
      simp only at m0 m1 m2 m3 m4 m5 m6
      clear hb2 h1 hz1 hb0 hCA hD
      go_upto_region 13 with (fail)
      go_region_with (first
        | (go_at_call 28; refine (hG _).mono ?_; rintro e w4 ⟨rfl, rfl⟩)
        | (go_at_call 29; refine (hT _).mono ?_; rintro e w5 ⟨rfl, hb5⟩; have hE5 := Aside0.mk ((hb5.block w.heap.size (blk_lt hE2.out)).trans hE2.out); obtain ⟨p0, p1, p2, p3, p4, p5, p6⟩ := effV_cells hE5.out; simp only at p0 p1 p2 p3 p4 p5 p6))
      all_goals
        go_wp2_with (fail)
        go_ret2
        rw [hrA.out, hLA.out]
        exact ⟨rfl, by first | exact (below_drew1 hB2.out).trans (hb5.mono (below_drew1 hB2.out).size) | exact hB2.out.trans (hb5.mono hB2.out.size)⟩
set_option maxHeartbeats 8000000 in
set_option maxRecDepth 100000 in
theorem refLine_2 (x : S27) (A : Option Addr) (c : Nat) (w : World) (hk : x.f0 = ((2 : Nat) : Int)) (hx : EffWr x) (hC : Kd.C (Kd.int .u8) w A x.f2.length x.f2) :
    Calls Tryz.prog 12 #[.agg (effV x A c)] w fun e w' => e = .returned (.tuple #[.string (lineR x).1, .int .i64 (lineR x).2]) ∧ Below w.heap.size w w' := by
  obtain ⟨xk, ⟨xf, xm, xt⟩, xd, xn, xo⟩ := x
  simp only at hk hC
  subst hk
  have hbad := Aside0.mk (bad_line 2 (by decide) ⟨((2 : Nat) : Int), ⟨xf, xm, xt⟩, xd, xn, xo⟩ rfl)
  have hb0 := Aside0.mk ((Below.refl _ w).alloc (Nat.le_refl _) (.cells (effV ⟨((2 : Nat) : Int), ⟨xf, xm, xt⟩, xd, xn, xo⟩ A c) 27))
  have hxA := Aside0.mk hx
  have hCA := Aside0.mk (Kd.C_below hC hb0.out)
  clear hx hC
  by_cases ha : (xf == 0 && (xm == 0 && xt == 0)) = false
  · have hr := hbad.out (fun h => by have := h.a (by decide); simp only [Go.Proofs.YtbiogabekhegaaaGreatDoor.PWritten.S25.mk.injEq] at this; obtain ⟨e1, e2, e3⟩ := this; rw [e1, e2, e3] at ha; exact absurd ha (by decide))
    have hrA := Aside0.mk hr
    clear hr hbad
    go_enter Tryz.func12, Tryz.ntmps12
    go_wp2_with (fail)
    go_ret2
    rw [hrA.out]
    exact ⟨rfl, hb0.out.alloc hb0.out.size _⟩
  · obtain ⟨rfl, rfl, rfl⟩ : xf = 0 ∧ xm = 0 ∧ xt = 0 := by simpa using ha
    clear ha
    by_cases hm : xn < 0
    · have hr := hbad.out (fun h => by have e : 0 ≤ xn := h.p; omega)
      have hrA := Aside0.mk hr
      clear hr hbad
      go_enter Tryz.func12, Tryz.ntmps12
      go_wp2_with (fail)
      go_ret2
      rw [hrA.out]
      exact ⟨rfl, hb0.out.alloc hb0.out.size _⟩
    · have hm0 := hm
      have hB : Bare 2 ⟨((2 : Nat) : Int), ⟨0, 0, 0⟩, xd, xn, xo⟩ := ⟨rfl, fun h => (by first | exact absurd (by decide) h | rfl), fun h => (by first | exact absurd rfl h | rfl), fun h => (by first | exact absurd (by decide) h | rfl), fun h => (by first | exact absurd (by decide) h | rfl), (by first | exact Int.le_refl _ | (show 0 ≤ xn; omega))⟩
      have hrA := Aside0.mk (hB.line (by decide))
      have hBA := Aside0.mk hB
      have hD := fun W => dec_ok xn W hB.p hxA.out.n1
      clear hbad hB
      have hL : lineB 2 ⟨((2 : Nat) : Int), ⟨0, 0, 0⟩, xd, xn, xo⟩ = (⟨#[119, 114, 111, 116, 101, 32]⟩ : ByteArray) ++ (if xo = true then okW else failW) ++ (⟨#[32]⟩ : ByteArray) ++ hexB xd ++ (⟨#[32]⟩ : ByteArray) ++ itoaB xn := line_w2 _ xo rfl (by decide)
      have hG := fun W => went_ok xo W
      have hw4 : (if xo = true then okW else failW).size ≤ 4 := by cases xo <;> decide
      generalize (if xo = true then okW else failW) = W0 at *
      have ht : (hexB xd).size ≤ 2000000001 := hexB_le xd hxA.out.l
      have hn9 : (itoaB xn).size ≤ 100 := itoa_len xn hxA.out.n0 hxA.out.n1
      have hH := Aside0.mk (fun W (hC : Kd.C (Kd.int .u8) W A xd.length xd) => refHex_ok xd A c W hC hxA.out.d hxA.out.l)
      generalize hexB xd = H at *
      generalize itoaB xn = T at *
      have hq7 : 6 + W0.size ≤ 9223372036854775807 := by omega
      have hq11 : 6 + W0.size + 1 ≤ 9223372036854775807 := by omega
      have hq20 : 6 + W0.size + 1 + H.size ≤ 9223372036854775807 := by omega
      have hq24 : 6 + W0.size + 1 + H.size + 1 ≤ 9223372036854775807 := by omega
      have hq33 : 6 + W0.size + 1 + H.size + 1 + T.size ≤ 9223372036854775807 := by omega
      have hLA := Aside0.mk hL
      clear hL
      go_enter Tryz.func12, Tryz.ntmps12
      go_wp2_with (fail)
      refine (hD _).mono ?_
      rintro e w2 ⟨rfl, hb2⟩
      have h1 := hb0.out.alloc hb0.out.size (.cells #[.int .u32 0, .int .u8 0, .int .u8 0] 25)
      have hz1 : (w.alloc (.cells (effV ⟨((2 : Nat) : Int), ⟨0, 0, 0⟩, xd, xn, xo⟩ A c) 27)).heap.size = w.heap.size + 1 := by simp
      have hB2 := Aside0.mk (h1.trans (hb2.mono h1.size))
      have hE2 := Aside0.mk ((hb2.block w.heap.size (by simp; omega)).trans ((heap_alloc_old _ _ (by simp)).trans (heap_alloc_new w (.cells (effV ⟨((2 : Nat) : Int), ⟨0, 0, 0⟩, xd, xn, xo⟩ A c) 27))))
      have hC2 := Aside0.mk (Kd.C_below (Kd.C_below hCA.out ((Below.refl _ _).alloc (Nat.le_refl _) (.cells #[.int .u32 0, .int .u8 0, .int .u8 0] 25))) hb2)
      obtain ⟨m0, m1, m2, m3, m4, m5, m6⟩ := effV_cells hE2.out
      simp only at m0 m1 m2 m3 m4 m5 m6
      clear hb2 h1 hz1 hb0 hCA hD
      go_upto_region 15 with (fail)
      go_region_with (first
        | (go_at_call 28; refine (hG _).mono ?_; rintro e w4 ⟨rfl, rfl⟩)
        | (go_at_call 30; refine (hH.out _ (by first | exact hC2.out | exact Kd.C_below hC2.out (below_drew1 (Below.refl _ _)))).mono ?_; rintro e w5 ⟨rfl, hb5⟩; have hE5 := Aside0.mk ((hb5.block w.heap.size (blk_lt hE2.out)).trans hE2.out); obtain ⟨p0, p1, p2, p3, p4, p5, p6⟩ := effV_cells hE5.out; simp only at p0 p1 p2 p3 p4 p5 p6))
      all_goals
        go_wp2_with (fail)
        go_ret2
        rw [hrA.out, hLA.out]
        exact ⟨rfl, by first | exact (below_drew1 hB2.out).trans (hb5.mono (below_drew1 hB2.out).size) | exact hB2.out.trans (hb5.mono hB2.out.size)⟩
set_option maxHeartbeats 8000000 in
set_option maxRecDepth 100000 in
theorem refLine_3 (x : S27) (A : Option Addr) (c : Nat) (w : World) (hk : x.f0 = ((3 : Nat) : Int)) (hx : EffWr x) (hC : Kd.C (Kd.int .u8) w A x.f2.length x.f2) :
    Calls Tryz.prog 12 #[.agg (effV x A c)] w fun e w' => e = .returned (.tuple #[.string (lineR x).1, .int .i64 (lineR x).2]) ∧ Below w.heap.size w w' := by
  obtain ⟨xk, ⟨xf, xm, xt⟩, xd, xn, xo⟩ := x
  simp only at hk hC
  subst hk
  have hbad := Aside0.mk (bad_line 3 (by decide) ⟨((3 : Nat) : Int), ⟨xf, xm, xt⟩, xd, xn, xo⟩ rfl)
  have hb0 := Aside0.mk ((Below.refl _ w).alloc (Nat.le_refl _) (.cells (effV ⟨((3 : Nat) : Int), ⟨xf, xm, xt⟩, xd, xn, xo⟩ A c) 27))
  have hxA := Aside0.mk hx
  have hCA := Aside0.mk (Kd.C_below hC hb0.out)
  clear hx hC
  by_cases ha : (xf == 0 && (xm == 0 && xt == 0)) = false
  · have hr := hbad.out (fun h => by have := h.a (by decide); simp only [Go.Proofs.YtbiogabekhegaaaGreatDoor.PWritten.S25.mk.injEq] at this; obtain ⟨e1, e2, e3⟩ := this; rw [e1, e2, e3] at ha; exact absurd ha (by decide))
    have hrA := Aside0.mk hr
    clear hr hbad
    go_enter Tryz.func12, Tryz.ntmps12
    go_wp2_with (fail)
    go_ret2
    rw [hrA.out]
    exact ⟨rfl, hb0.out.alloc hb0.out.size _⟩
  · obtain ⟨rfl, rfl, rfl⟩ : xf = 0 ∧ xm = 0 ∧ xt = 0 := by simpa using ha
    clear ha
    by_cases hd : (0 : Int) < (xd.length : Int)
    · have hr := hbad.out (fun h => by have e : xd = [] := h.d (by decide); rw [e] at hd; exact absurd hd (by decide))
      have hdE : ¬ xd = [] := fun e => by rw [e] at hd; exact absurd hd (by decide)
      have hrA := Aside0.mk hr
      clear hr hbad
      go_enter Tryz.func12, Tryz.ntmps12
      go_wp2_with (fail)
      go_ret2
      rw [hrA.out]
      exact ⟨rfl, hb0.out.alloc hb0.out.size _⟩
    · obtain rfl : xd = [] := List.eq_nil_of_length_eq_zero (by omega)
      clear hd
      have z0 : ([] : List Int).length = 0 := rfl
      by_cases hm : xn < 0
      · have hr := hbad.out (fun h => by have e : 0 ≤ xn := h.p; omega)
        have hrA := Aside0.mk hr
        clear hr hbad
        go_enter Tryz.func12, Tryz.ntmps12
        go_wp2_with (fail)
        go_ret2
        rw [hrA.out]
        exact ⟨rfl, hb0.out.alloc hb0.out.size _⟩
      · have hm0 := hm
        have hB : Bare 3 ⟨((3 : Nat) : Int), ⟨0, 0, 0⟩, [], xn, xo⟩ := ⟨rfl, fun h => (by first | exact absurd (by decide) h | rfl), fun h => (by first | exact absurd rfl h | rfl), fun h => (by first | exact absurd (by decide) h | rfl), fun h => (by first | exact absurd (by decide) h | rfl), (by first | exact Int.le_refl _ | (show 0 ≤ xn; omega))⟩
        have hrA := Aside0.mk (hB.line (by decide))
        have hBA := Aside0.mk hB
        have hD := fun W => dec_ok xn W hB.p hxA.out.n1
        clear hbad hB
        have hL : lineB 3 ⟨((3 : Nat) : Int), ⟨0, 0, 0⟩, [], xn, xo⟩ = (⟨#[114, 101, 97, 100, 32]⟩ : ByteArray) ++ (if xo = true then okW else failW) ++ (⟨#[32]⟩ : ByteArray) ++ itoaB xn := line_w3 _ xo rfl (by decide)
        have hG := fun W => went_ok xo W
        have hw4 : (if xo = true then okW else failW).size ≤ 4 := by cases xo <;> decide
        generalize (if xo = true then okW else failW) = W0 at *
        have hn9 : (itoaB xn).size ≤ 100 := itoa_len xn hxA.out.n0 hxA.out.n1
        generalize itoaB xn = T at *
        have hq7 : 5 + W0.size ≤ 9223372036854775807 := by omega
        have hq11 : 5 + W0.size + 1 ≤ 9223372036854775807 := by omega
        have hq20 : 5 + W0.size + 1 + T.size ≤ 9223372036854775807 := by omega
        have hLA := Aside0.mk hL
        clear hL
        go_enter Tryz.func12, Tryz.ntmps12
        go_wp2_with (fail)
        refine (hD _).mono ?_
        rintro e w2 ⟨rfl, hb2⟩
        have h1 := hb0.out.alloc hb0.out.size (.cells #[.int .u32 0, .int .u8 0, .int .u8 0] 25)
        have hz1 : (w.alloc (.cells (effV ⟨((3 : Nat) : Int), ⟨0, 0, 0⟩, [], xn, xo⟩ A c) 27)).heap.size = w.heap.size + 1 := by simp
        have hB2 := Aside0.mk (h1.trans (hb2.mono h1.size))
        have hE2 := Aside0.mk ((hb2.block w.heap.size (by simp; omega)).trans ((heap_alloc_old _ _ (by simp)).trans (heap_alloc_new w (.cells (effV ⟨((3 : Nat) : Int), ⟨0, 0, 0⟩, [], xn, xo⟩ A c) 27))))
        have hC2 := Aside0.mk (Kd.C_below (Kd.C_below hCA.out ((Below.refl _ _).alloc (Nat.le_refl _) (.cells #[.int .u32 0, .int .u8 0, .int .u8 0] 25))) hb2)
        obtain ⟨m0, m1, m2, m3, m4, m5, m6⟩ := effV_cells hE2.out
        simp only at m0 m1 m2 m3 m4 m5 m6
        clear hb2 h1 hz1 hb0 hCA hD
        go_wp2_with (fail)
        refine (hG _).mono ?_
        rintro e w4 ⟨rfl, rfl⟩
        go_wp2_with (fail)
        go_ret2
        rw [hrA.out, hLA.out]
        exact ⟨rfl, hB2.out⟩
set_option maxHeartbeats 8000000 in
set_option maxRecDepth 100000 in
theorem refLine_4 (x : S27) (A : Option Addr) (c : Nat) (w : World) (hk : x.f0 = ((4 : Nat) : Int)) (hx : EffWr x) (hC : Kd.C (Kd.int .u8) w A x.f2.length x.f2) :
    Calls Tryz.prog 12 #[.agg (effV x A c)] w fun e w' => e = .returned (.tuple #[.string (lineR x).1, .int .i64 (lineR x).2]) ∧ Below w.heap.size w w' := by
  obtain ⟨xk, ⟨xf, xm, xt⟩, xd, xn, xo⟩ := x
  simp only at hk hC
  subst hk
  have hbad := Aside0.mk (bad_line 4 (by decide) ⟨((4 : Nat) : Int), ⟨xf, xm, xt⟩, xd, xn, xo⟩ rfl)
  have hb0 := Aside0.mk ((Below.refl _ w).alloc (Nat.le_refl _) (.cells (effV ⟨((4 : Nat) : Int), ⟨xf, xm, xt⟩, xd, xn, xo⟩ A c) 27))
  have hxA := Aside0.mk hx
  have hCA := Aside0.mk (Kd.C_below hC hb0.out)
  clear hx hC
  by_cases ha : (xf == 0 && (xm == 0 && xt == 0)) = false
  · have hr := hbad.out (fun h => by have := h.a (by decide); simp only [Go.Proofs.YtbiogabekhegaaaGreatDoor.PWritten.S25.mk.injEq] at this; obtain ⟨e1, e2, e3⟩ := this; rw [e1, e2, e3] at ha; exact absurd ha (by decide))
    have hrA := Aside0.mk hr
    clear hr hbad
    go_enter Tryz.func12, Tryz.ntmps12
    go_wp2_with (fail)
    go_ret2
    rw [hrA.out]
    exact ⟨rfl, hb0.out.alloc hb0.out.size _⟩
  · obtain ⟨rfl, rfl, rfl⟩ : xf = 0 ∧ xm = 0 ∧ xt = 0 := by simpa using ha
    clear ha
    by_cases hd : (0 : Int) < (xd.length : Int)
    · have hr := hbad.out (fun h => by have e : xd = [] := h.d (by decide); rw [e] at hd; exact absurd hd (by decide))
      have hdE : ¬ xd = [] := fun e => by rw [e] at hd; exact absurd hd (by decide)
      have hrA := Aside0.mk hr
      clear hr hbad
      go_enter Tryz.func12, Tryz.ntmps12
      go_wp2_with (fail)
      go_ret2
      rw [hrA.out]
      exact ⟨rfl, hb0.out.alloc hb0.out.size _⟩
    · obtain rfl : xd = [] := List.eq_nil_of_length_eq_zero (by omega)
      clear hd
      have z0 : ([] : List Int).length = 0 := rfl
      by_cases ho : xo = true
      · have hr := hbad.out (fun h => by have e : xo = false := h.o (by decide); rw [e] at ho; exact absurd ho (by decide))
        subst ho
        have hrA := Aside0.mk hr
        clear hr hbad
        go_enter Tryz.func12, Tryz.ntmps12
        go_wp2_with (fail)
        go_ret2
        rw [hrA.out]
        exact ⟨rfl, hb0.out.alloc hb0.out.size _⟩
      · obtain rfl : xo = false := by simpa using ho
        clear ho
        by_cases hm : xn < 0
        · have hr := hbad.out (fun h => by have e : 0 ≤ xn := h.p; omega)
          have hrA := Aside0.mk hr
          clear hr hbad
          go_enter Tryz.func12, Tryz.ntmps12
          go_wp2_with (fail)
          go_ret2
          rw [hrA.out]
          exact ⟨rfl, hb0.out.alloc hb0.out.size _⟩
        · have hm0 := hm
          have hB : Bare 4 ⟨((4 : Nat) : Int), ⟨0, 0, 0⟩, [], xn, false⟩ := ⟨rfl, fun h => (by first | exact absurd (by decide) h | rfl), fun h => (by first | exact absurd rfl h | rfl), fun h => (by first | exact absurd (by decide) h | rfl), fun h => (by first | exact absurd (by decide) h | rfl), (by first | exact Int.le_refl _ | (show 0 ≤ xn; omega))⟩
          have hrA := Aside0.mk (hB.line (by decide))
          have hBA := Aside0.mk hB
          have hD := fun W => dec_ok xn W hB.p hxA.out.n1
          clear hbad hB
          have hL : lineB 4 ⟨((4 : Nat) : Int), ⟨0, 0, 0⟩, [], xn, false⟩ = (⟨#[115, 105, 103, 110, 97, 108, 32]⟩ : ByteArray) ++ itoaB xn := line_w4 _
          have hn9 : (itoaB xn).size ≤ 100 := itoa_len xn hxA.out.n0 hxA.out.n1
          generalize itoaB xn = T at *
          have hq6 : 7 + T.size ≤ 9223372036854775807 := by omega
          have hLA := Aside0.mk hL
          clear hL
          go_enter Tryz.func12, Tryz.ntmps12
          go_wp2_with (fail)
          refine (hD _).mono ?_
          rintro e w2 ⟨rfl, hb2⟩
          have h1 := hb0.out.alloc hb0.out.size (.cells #[.int .u32 0, .int .u8 0, .int .u8 0] 25)
          have hz1 : (w.alloc (.cells (effV ⟨((4 : Nat) : Int), ⟨0, 0, 0⟩, [], xn, false⟩ A c) 27)).heap.size = w.heap.size + 1 := by simp
          have hB2 := Aside0.mk (h1.trans (hb2.mono h1.size))
          have hE2 := Aside0.mk ((hb2.block w.heap.size (by simp; omega)).trans ((heap_alloc_old _ _ (by simp)).trans (heap_alloc_new w (.cells (effV ⟨((4 : Nat) : Int), ⟨0, 0, 0⟩, [], xn, false⟩ A c) 27))))
          have hC2 := Aside0.mk (Kd.C_below (Kd.C_below hCA.out ((Below.refl _ _).alloc (Nat.le_refl _) (.cells #[.int .u32 0, .int .u8 0, .int .u8 0] 25))) hb2)
          obtain ⟨m0, m1, m2, m3, m4, m5, m6⟩ := effV_cells hE2.out
          simp only at m0 m1 m2 m3 m4 m5 m6
          clear hb2 h1 hz1 hb0 hCA hD
          go_wp2_with (fail)
          go_ret2
          rw [hrA.out, hLA.out]
          exact ⟨rfl, hB2.out⟩
set_option maxHeartbeats 8000000 in
set_option maxRecDepth 100000 in
theorem refLine_5 (x : S27) (A : Option Addr) (c : Nat) (w : World) (hk : x.f0 = ((5 : Nat) : Int)) (hx : EffWr x) (hC : Kd.C (Kd.int .u8) w A x.f2.length x.f2) :
    Calls Tryz.prog 12 #[.agg (effV x A c)] w fun e w' => e = .returned (.tuple #[.string (lineR x).1, .int .i64 (lineR x).2]) ∧ Below w.heap.size w w' := by
  obtain ⟨xk, ⟨xf, xm, xt⟩, xd, xn, xo⟩ := x
  simp only at hk hC
  subst hk
  have hbad := Aside0.mk (bad_line 5 (by decide) ⟨((5 : Nat) : Int), ⟨xf, xm, xt⟩, xd, xn, xo⟩ rfl)
  have hb0 := Aside0.mk ((Below.refl _ w).alloc (Nat.le_refl _) (.cells (effV ⟨((5 : Nat) : Int), ⟨xf, xm, xt⟩, xd, xn, xo⟩ A c) 27))
  have hxA := Aside0.mk hx
  have hCA := Aside0.mk (Kd.C_below hC hb0.out)
  clear hx hC
  by_cases ha : (xf == 0 && (xm == 0 && xt == 0)) = false
  · have hr := hbad.out (fun h => by have := h.a (by decide); simp only [Go.Proofs.YtbiogabekhegaaaGreatDoor.PWritten.S25.mk.injEq] at this; obtain ⟨e1, e2, e3⟩ := this; rw [e1, e2, e3] at ha; exact absurd ha (by decide))
    have hrA := Aside0.mk hr
    clear hr hbad
    go_enter Tryz.func12, Tryz.ntmps12
    go_wp2_with (fail)
    go_ret2
    rw [hrA.out]
    exact ⟨rfl, hb0.out.alloc hb0.out.size _⟩
  · obtain ⟨rfl, rfl, rfl⟩ : xf = 0 ∧ xm = 0 ∧ xt = 0 := by simpa using ha
    clear ha
    by_cases hd : (0 : Int) < (xd.length : Int)
    · have hr := hbad.out (fun h => by have e : xd = [] := h.d (by decide); rw [e] at hd; exact absurd hd (by decide))
      have hdE : ¬ xd = [] := fun e => by rw [e] at hd; exact absurd hd (by decide)
      have hrA := Aside0.mk hr
      clear hr hbad
      go_enter Tryz.func12, Tryz.ntmps12
      go_wp2_with (fail)
      go_ret2
      rw [hrA.out]
      exact ⟨rfl, hb0.out.alloc hb0.out.size _⟩
    · obtain rfl : xd = [] := List.eq_nil_of_length_eq_zero (by omega)
      clear hd
      have z0 : ([] : List Int).length = 0 := rfl
      by_cases hn : (xn != 0) = true
      · have hr := hbad.out (fun h => by have e : xn = 0 := h.n (by decide); rw [e] at hn; exact absurd hn (by decide))
        have hnE : ¬ xn = 0 := fun e => by rw [e] at hn; exact absurd hn (by decide)
        have hrA := Aside0.mk hr
        clear hr hbad
        go_enter Tryz.func12, Tryz.ntmps12
        go_wp2_with (fail)
        go_ret2
        rw [hrA.out]
        exact ⟨rfl, hb0.out.alloc hb0.out.size _⟩
      · obtain rfl : xn = 0 := by simpa using hn
        clear hn
        by_cases ho : xo = true
        · have hr := hbad.out (fun h => by have e : xo = false := h.o (by decide); rw [e] at ho; exact absurd ho (by decide))
          subst ho
          have hrA := Aside0.mk hr
          clear hr hbad
          go_enter Tryz.func12, Tryz.ntmps12
          go_wp2_with (fail)
          go_ret2
          rw [hrA.out]
          exact ⟨rfl, hb0.out.alloc hb0.out.size _⟩
        · obtain rfl : xo = false := by simpa using ho
          clear ho
          have hB : Bare 5 ⟨((5 : Nat) : Int), ⟨0, 0, 0⟩, [], 0, false⟩ := ⟨rfl, fun h => (by first | exact absurd (by decide) h | rfl), fun h => (by first | exact absurd rfl h | rfl), fun h => (by first | exact absurd (by decide) h | rfl), fun h => (by first | exact absurd (by decide) h | rfl), (by first | exact Int.le_refl _ | (show 0 ≤ xn; omega))⟩
          have hrA := Aside0.mk (hB.line (by decide))
          have hBA := Aside0.mk hB
          have hD := fun W => dec_ok 0 W hB.p hxA.out.n1
          clear hbad hB
          go_enter Tryz.func12, Tryz.ntmps12
          go_wp2_with (fail)
          refine (hD _).mono ?_
          rintro e w2 ⟨rfl, hb2⟩
          have h1 := hb0.out.alloc hb0.out.size (.cells #[.int .u32 0, .int .u8 0, .int .u8 0] 25)
          have hz1 : (w.alloc (.cells (effV ⟨((5 : Nat) : Int), ⟨0, 0, 0⟩, [], 0, false⟩ A c) 27)).heap.size = w.heap.size + 1 := by simp
          have hB2 := Aside0.mk (h1.trans (hb2.mono h1.size))
          have hE2 := Aside0.mk ((hb2.block w.heap.size (by simp; omega)).trans ((heap_alloc_old _ _ (by simp)).trans (heap_alloc_new w (.cells (effV ⟨((5 : Nat) : Int), ⟨0, 0, 0⟩, [], 0, false⟩ A c) 27))))
          have hC2 := Aside0.mk (Kd.C_below (Kd.C_below hCA.out ((Below.refl _ _).alloc (Nat.le_refl _) (.cells #[.int .u32 0, .int .u8 0, .int .u8 0] 25))) hb2)
          obtain ⟨m0, m1, m2, m3, m4, m5, m6⟩ := effV_cells hE2.out
          simp only at m0 m1 m2 m3 m4 m5 m6
          clear hb2 h1 hz1 hb0 hCA hD
          go_wp2_with (fail)
          go_ret2
          rw [hrA.out]
          exact ⟨rfl, hB2.out⟩
set_option maxHeartbeats 8000000 in
set_option maxRecDepth 100000 in
theorem refLine_6 (x : S27) (A : Option Addr) (c : Nat) (w : World) (hk : x.f0 = ((6 : Nat) : Int)) (hx : EffWr x) (hC : Kd.C (Kd.int .u8) w A x.f2.length x.f2) :
    Calls Tryz.prog 12 #[.agg (effV x A c)] w fun e w' => e = .returned (.tuple #[.string (lineR x).1, .int .i64 (lineR x).2]) ∧ Below w.heap.size w w' := by
  obtain ⟨xk, ⟨xf, xm, xt⟩, xd, xn, xo⟩ := x
  simp only at hk hC
  subst hk
  have hbad := Aside0.mk (bad_line 6 (by decide) ⟨((6 : Nat) : Int), ⟨xf, xm, xt⟩, xd, xn, xo⟩ rfl)
  have hb0 := Aside0.mk ((Below.refl _ w).alloc (Nat.le_refl _) (.cells (effV ⟨((6 : Nat) : Int), ⟨xf, xm, xt⟩, xd, xn, xo⟩ A c) 27))
  have hxA := Aside0.mk hx
  have hCA := Aside0.mk (Kd.C_below hC hb0.out)
  clear hx hC
  by_cases ha : (xf == 0 && (xm == 0 && xt == 0)) = false
  · have hr := hbad.out (fun h => by have := h.a (by decide); simp only [Go.Proofs.YtbiogabekhegaaaGreatDoor.PWritten.S25.mk.injEq] at this; obtain ⟨e1, e2, e3⟩ := this; rw [e1, e2, e3] at ha; exact absurd ha (by decide))
    have hrA := Aside0.mk hr
    clear hr hbad
    go_enter Tryz.func12, Tryz.ntmps12
    go_wp2_with (fail)
    go_ret2
    rw [hrA.out]
    exact ⟨rfl, hb0.out.alloc hb0.out.size _⟩
  · obtain ⟨rfl, rfl, rfl⟩ : xf = 0 ∧ xm = 0 ∧ xt = 0 := by simpa using ha
    clear ha
    by_cases hd : (0 : Int) < (xd.length : Int)
    · have hr := hbad.out (fun h => by have e : xd = [] := h.d (by decide); rw [e] at hd; exact absurd hd (by decide))
      have hdE : ¬ xd = [] := fun e => by rw [e] at hd; exact absurd hd (by decide)
      have hrA := Aside0.mk hr
      clear hr hbad
      go_enter Tryz.func12, Tryz.ntmps12
      go_wp2_with (fail)
      go_ret2
      rw [hrA.out]
      exact ⟨rfl, hb0.out.alloc hb0.out.size _⟩
    · obtain rfl : xd = [] := List.eq_nil_of_length_eq_zero (by omega)
      clear hd
      have z0 : ([] : List Int).length = 0 := rfl
      by_cases hn : (xn != 0) = true
      · have hr := hbad.out (fun h => by have e : xn = 0 := h.n (by decide); rw [e] at hn; exact absurd hn (by decide))
        have hnE : ¬ xn = 0 := fun e => by rw [e] at hn; exact absurd hn (by decide)
        have hrA := Aside0.mk hr
        clear hr hbad
        go_enter Tryz.func12, Tryz.ntmps12
        go_wp2_with (fail)
        go_ret2
        rw [hrA.out]
        exact ⟨rfl, hb0.out.alloc hb0.out.size _⟩
      · obtain rfl : xn = 0 := by simpa using hn
        clear hn
        by_cases ho : xo = true
        · have hr := hbad.out (fun h => by have e : xo = false := h.o (by decide); rw [e] at ho; exact absurd ho (by decide))
          subst ho
          have hrA := Aside0.mk hr
          clear hr hbad
          go_enter Tryz.func12, Tryz.ntmps12
          go_wp2_with (fail)
          go_ret2
          rw [hrA.out]
          exact ⟨rfl, hb0.out.alloc hb0.out.size _⟩
        · obtain rfl : xo = false := by simpa using ho
          clear ho
          have hB : Bare 6 ⟨((6 : Nat) : Int), ⟨0, 0, 0⟩, [], 0, false⟩ := ⟨rfl, fun h => (by first | exact absurd (by decide) h | rfl), fun h => (by first | exact absurd rfl h | rfl), fun h => (by first | exact absurd (by decide) h | rfl), fun h => (by first | exact absurd (by decide) h | rfl), (by first | exact Int.le_refl _ | (show 0 ≤ xn; omega))⟩
          have hrA := Aside0.mk (hB.line (by decide))
          have hBA := Aside0.mk hB
          have hD := fun W => dec_ok 0 W hB.p hxA.out.n1
          clear hbad hB
          go_enter Tryz.func12, Tryz.ntmps12
          go_wp2_with (fail)
          refine (hD _).mono ?_
          rintro e w2 ⟨rfl, hb2⟩
          have h1 := hb0.out.alloc hb0.out.size (.cells #[.int .u32 0, .int .u8 0, .int .u8 0] 25)
          have hz1 : (w.alloc (.cells (effV ⟨((6 : Nat) : Int), ⟨0, 0, 0⟩, [], 0, false⟩ A c) 27)).heap.size = w.heap.size + 1 := by simp
          have hB2 := Aside0.mk (h1.trans (hb2.mono h1.size))
          have hE2 := Aside0.mk ((hb2.block w.heap.size (by simp; omega)).trans ((heap_alloc_old _ _ (by simp)).trans (heap_alloc_new w (.cells (effV ⟨((6 : Nat) : Int), ⟨0, 0, 0⟩, [], 0, false⟩ A c) 27))))
          have hC2 := Aside0.mk (Kd.C_below (Kd.C_below hCA.out ((Below.refl _ _).alloc (Nat.le_refl _) (.cells #[.int .u32 0, .int .u8 0, .int .u8 0] 25))) hb2)
          obtain ⟨m0, m1, m2, m3, m4, m5, m6⟩ := effV_cells hE2.out
          simp only at m0 m1 m2 m3 m4 m5 m6
          clear hb2 h1 hz1 hb0 hCA hD
          go_wp2_with (fail)
          go_ret2
          rw [hrA.out]
          exact ⟨rfl, hB2.out⟩
end Go.Proofs.YtbiogabekhegaaaGreatDoor.Hand
