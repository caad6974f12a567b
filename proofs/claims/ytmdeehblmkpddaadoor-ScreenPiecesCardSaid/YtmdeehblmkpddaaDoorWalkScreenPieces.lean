/- ScreenPieces: in whatever pieces bytes come, the same is seen. -/
import Derived.Test.YtmdeehblmkpddaaDoorHandTabOf14
import Derived.LoopTactic
namespace Go.Proofs.YtmdeehblmkpddaaDoor.Hand
open Go.RowKit Go.Proofs.YtmdeehblmkpddaaDoorW.PrintWords Go.Proofs.YtmdeehblmkpddaaDoorW.PrintLast
set_option linter.unusedVariables false
set_option linter.unusedSimpArgs false
/-- While the pieces are fed. -/
structure PieceRel (w0 w4 : World) (g1 g2 : Nat) (S : SM) (n1 : Nat) (l : List Int) (wr : World) (v7 : Value) (d : Nat) : Prop where
  le : d ≤ l.length
  v : ∃ A c, v7 = .slice A (l.drop d).length c ∧ (l.drop d).length ≤ c ∧ c ≤ maxLen ∧ Kd.C (Kd.int .u8) w0 A (l.drop d).length (l.drop d) ∧ (A = none → c = 0)
  t : Two w0 wr g1 S n1 g2 (SM.fresh.feed (l.take d)) (1 + d)
theorem cut_k (x : Int) (m : Nat) (hm : m ≤ 100000) : ∃ k : Nat, k ≤ m ∧ wrap64 ((IntKind.u64.wrap x).tmod ((m : Int) + 1)) = (k : Int) := by
  have hu : 0 ≤ IntKind.u64.wrap x := by
    simp [IntKind.wrap, IntKind.signed, IntKind.bits]
    omega
  rw [Int.tmod_eq_emod_of_nonneg hu]
  have h1 := Int.emod_nonneg (IntKind.u64.wrap x) (show (m : Int) + 1 ≠ 0 by omega)
  have h2 := Int.emod_lt_of_pos (IntKind.u64.wrap x) (show 0 < (m : Int) + 1 by omega)
  generalize IntKind.u64.wrap x % ((m : Int) + 1) = r at *
  refine ⟨r.toNat, by omega, ?_⟩
  unfold wrap64
  omega
theorem PieceRel.next {w0 w4 : World} {g1 g2 : Nat} {S : SM} {n1 : Nat} {l : List Int} {wr' : World} {A : Option Addr} {c d k : Nat} {rest : List Int} (hrd : l.drop d = rest) (hd : d ≤ l.length) (hle : rest.length ≤ c) (hcm : c ≤ maxLen) (hC : Kd.C (Kd.int .u8) w0 A rest.length rest) (hA : A = none → c = 0) (hk : k ≤ rest.length)
    (hT : Two w0 wr' g1 S n1 g2 ((SM.fresh.feed (l.take d)).feed (rest.take k)) (1 + d + k)) : PieceRel w0 w4 g1 g2 S n1 l wr' (.slice (if c = k then A else A.map (fun x => x.add k)) (rest.length - k) (c - k)) (d + k) := by
  have hl : rest.length = l.length - d := by rw [← hrd, List.length_drop]
  have hdd : l.drop (d + k) = rest.drop k := by rw [← hrd, List.drop_drop]
  refine ⟨by omega, ⟨if c = k then A else A.map (fun x => x.add k), c - k, ?_, ?_, by omega, ?_, fun e => ?_⟩, ?_⟩
  · rw [hdd, List.length_drop]
  · rw [hdd, List.length_drop]; omega
  · rw [hdd]
    cases A with
    | none =>
      have hc := hA rfl
      have hk0 : k = 0 := by omega
      subst hk0
      rw [List.drop_zero]
      split
      · exact hC
      · exact hC
    | some a =>
      by_cases e : c = k
      · rw [if_pos e]
        exact C_drop hC k hk (.inr (by omega))
      · rw [if_neg e]
        exact C_drop hC k hk (.inl rfl)
  · by_cases e2 : c = k
    · omega
    · rw [if_neg e2] at e
      cases A with
      | none => have := hA rfl; omega
      | some a => cases e
  · rw [feed_app, ← hrd, ← List.take_add, Nat.add_assoc] at hT
    exact hT
set_option maxHeartbeats 4000000 in
set_option maxRecDepth 100000 in
theorem ScreenPieces_walk (a0 : Option Addr) (len0 cap0 : Nat) (z0 : List Int) (a1 : Option Addr) (len1 cap1 : Nat) (z1 : List Int) (w : World) (HT : TabS w)
    (w0 : (a0 = none ∧ len0 = 0 ∧ cap0 = 0 ∧ z0 = []) ∨ ∃ x, a0 = some x ∧ len0 ≤ cap0 ∧ cap0 ≤ maxLen ∧ z0.length = cap0 ∧ (∀ i, i < z0.length → w.cell? (x.add i) = some (.int .u8 (z0.getD i 0))) ∧ ∀ n ∈ z0, (Lit.int .u8 n).wf = true)
    (y0 : len0 * 1 ≤ 140737488351232)
    (w1 : (a1 = none ∧ len1 = 0 ∧ cap1 = 0 ∧ z1 = []) ∨ ∃ x, a1 = some x ∧ len1 ≤ cap1 ∧ cap1 ≤ maxLen ∧ z1.length = cap1 ∧ (∀ i, i < z1.length → w.cell? (x.add i) = some (.int .i64 (z1.getD i 0))) ∧ ∀ n ∈ z1, (Lit.int .i64 n).wf = true)
    (y1 : len1 * 8 ≤ 140737488351232) :
    Calls Tryd.prog 7 #[.slice a0 len0 cap0, .slice a1 len1 cap1] w fun e w' => e = .returned (.bool true) ∧ Below w.heap.size w w' := by
  obtain ⟨l, rfl, hC, hcap, hcm, hwf, hnn⟩ := row_in w0
  obtain ⟨q, rfl, hQ, hqcap, hqm, hqwf, _⟩ := row_in w1
  have hb : ∀ x ∈ l, 0 ≤ x ∧ x ≤ 255 := fun x hx => wf_u8' (hwf x hx)
  have hbA := Aside0.mk hb
  have hCA := Aside0.mk hC
  have hQA := Aside0.mk hQ
  have hqwA := Aside0.mk hqwf
  have hnA := Aside0.mk hnn
  clear w0 w1 z0 z1 hb hC hQ hwf hqwf hnn
  go_enter Tryd.func7, Tryd.ntmps7
  go_wp2_with (fail)
  refine (new_ok _).mono ?_
  rintro e w1 ⟨g1, rfl, hs1, hb1⟩
  have B1 := Aside0.mk hb1
  have S1 := Aside0.mk (On.new (Below.refl _ w) hs1 hb1)
  clear hb1 hs1
  go_wp2_with (fail)
  refine (new_ok _).mono ?_
  rintro e w2 ⟨g2, rfl, hs2, hb2⟩
  have T2 := Aside0.mk (show Two w w2 g1 SM.fresh 1 g2 SM.fresh 1 from ⟨_, _, S1.out.below hb2, On.new B1.out hs2 hb2, fun b h1 h2 => by have := h1.2; have := h2.1; omega⟩)
  clear hb2 hs2
  go_wp2_with (fail)
  have ht2 := HT.below T2.out.b
  refine (alive_ok _ ht2.n ht2.u).mono ?_
  rintro e w3 ⟨rfl, hb3⟩
  have T3 := Aside0.mk (T2.out.below hb3)
  clear hb3 ht2
  by_cases hbig : 1200 < l.length ∨ 60 < q.length
  · have hgo : (1200 : Int) < (l.length : Int) ∨ ((l.length : Int) ≤ 1200 ∧ (60 : Int) < (q.length : Int)) := by omega
    have ht3 := HT.below T3.out.b
    rcases hgo with h1 | ⟨h1, h2⟩
    all_goals
      go_wp2_with (fail)
      refine (alive_ok _ ht3.n ht3.u).mono ?_
      rintro e w4 ⟨rfl, hb4⟩
      have hfin := Aside0.mk (T3.out.b.trans (hb4.mono T3.out.b.size))
      clear hb4 ht3
      go_wp2_with (fail)
      go_ret
      exact ⟨rfl, hfin.out⟩
  · have h1 : (l.length : Int) ≤ 1200 := by omega
    have h2 : (q.length : Int) ≤ 60 := by omega
    go_wp2_with (fail)
    have hC3 := C_later hCA.out T3.out.b
    refine (two_feed T3.out HT a0 cap0 l hC3 hcap hbA.out (by omega)).mono ?_
    rintro e w4 ⟨rfl, T4⟩
    clear hC3
    have H0 := Aside0.mk (show PieceRel w w4 g1 g2 (SM.fresh.feed l) (1 + l.length) l w4 (.slice a0 l.length cap0) 0 from ⟨Nat.zero_le _, ⟨a0, cap0, rfl, hcap, hcm, hCA.out, hnA.out⟩, T4⟩)
    generalize hSd : SM.fresh.feed l = S at *
    clear T3 T4
    go_wp2_with (fail)
    go_loopw [7, 45] (fun v7 v45 wr => ∃ (d i : Nat), v45 = .int .i64 i ∧ Aside0 (i ≤ q.length) ∧ Aside0 (PieceRel w w4 g1 g2 S (1 + l.length) l wr v7 d)) (fun v7 v45 _ => q.length - (intOf v45).toNat)
    case atStart => exact ⟨0, 0, rfl, ⟨Nat.zero_le _⟩, H0⟩
    case round =>
      obtain ⟨d, i, rfl, hi, hR⟩ := hrel
      obtain ⟨A, c, rfl, hle, hcm2, hCd, hA⟩ := hR.out.v
      have hd := hR.out.le
      have hi0 := hi.out
      have hGb := hR.out.t.b
      have hCw := Aside0.mk (C_later hCd hGb)
      have hAA := Aside0.mk hA
      have hCdA := Aside0.mk hCd
      clear hCd hA
      by_cases hlt : i < q.length
      · obtain ⟨ad, rfl, hcell⟩ := (Kd.reads_of_C (d := (0 : Int)) (C_later hQA.out hGb)).2.2 (by omega)
        have hc := hcell i hlt
        have hx := hqwA.out (q.getD i 0) (by rw [List.getD_eq_getElem?_getD, List.getElem?_eq_getElem hlt]; exact List.getElem_mem hlt)
        have hiI : (i : Int) < (q.length : Int) := by omega
        clear hcell hGb
        generalize q.getD i 0 = x at *
        have hml : (l.drop d).length = l.length - d := List.length_drop
        have hmA := Aside0.mk hml
        have hrest : (l.drop d).length ≤ 1200 := by omega
        have hrb : ∀ y ∈ l.drop d, 0 ≤ y ∧ y ≤ 255 := fun y hy => hbA.out y (List.mem_of_mem_drop hy)
        have hrbA := Aside0.mk hrb
        clear hml hrb
        have hT := Aside0.mk hR.out.t
        have hdA := Aside0.mk hd
        clear hR hd
        generalize hrd : l.drop d = rest at *
        have hrdA := Aside0.mk hrd
        clear hrd
        obtain ⟨k, hk1, hk2⟩ := cut_k x rest.length (by omega)
        have hkc : k ≤ c := by omega
        have HF := two_feed hT.out.swap HT A c (rest.take k) (C_take hCw.out k hk1) (by rw [List.length_take]; omega) (fun y hy => hrbA.out y (List.mem_of_mem_take hy)) (by have := hmA.out; have := hdA.out; rw [List.length_take]; omega)
        rw [show (rest.take k).length = k by rw [List.length_take]; omega] at HF
        go_wp2_with (fail)
        refine HF.mono ?_
        rintro e w5 ⟨rfl, hT5⟩
        have hN := Aside0.mk (PieceRel.next (w4 := w4) hrdA.out hdA.out hle hcm2 hCdA.out hAA.out hk1 hT5.swap)
        clear HF hT5 hT
        go_wp2_with (fail)
        refine ⟨⟨d + k, i + 1, rfl, ⟨by omega⟩, hN⟩, ?_⟩
        simp [intOf]
        omega
      · have hiI : (q.length : Int) ≤ (i : Int) := by omega
        have hml : (l.drop d).length = l.length - d := List.length_drop
        have hrest : (l.drop d).length ≤ 1200 := by omega
        have HF := two_feed hR.out.t.swap HT A c (l.drop d) hCw.out hle (fun y hy => hbA.out y (List.mem_of_mem_drop hy)) (by rw [hml]; omega)
        rw [feed_app, List.take_append_drop, hSd] at HF
        have hrow := Aside0.mk hR.out.t
        have hdb : 1 + d + (l.drop d).length ≤ 2000 := by omega
        clear hR hGb hml hCw hCdA hAA
        generalize l.drop d = rest at *
        go_wp2_with (fail)
        refine HF.mono ?_
        rintro e w5 ⟨rfl, T5⟩
        have T5 := Aside0.mk T5
        clear HF hrow
        go_wp2_with (fail)
        have hrn : S.rows.length ≤ 1 + l.length := by obtain ⟨F, O⟩ := T5.out.swap.x1; exact O.f.fine.rows
        obtain ⟨F5, O5⟩ := (T5.out.swap).x1
        refine (place_ok _ _ _ _ O5.x).mono ?_
        rintro e w6 ⟨rfl, hb6⟩
        have T6 := Aside0.mk (T5.out.below hb6)
        clear hb6 O5 T5
        go_wp2_with (fail)
        obtain ⟨F6, O6⟩ := (T6.out).x1
        refine (place_ok _ _ _ _ O6.x).mono ?_
        rintro e w7 ⟨rfl, hb7⟩
        have T7 := Aside0.mk (T6.out.below hb7)
        clear hb7 O6 T6
        go_wp2_with (fail)
        obtain ⟨F7, O7⟩ := (T7.out.swap).x1
        refine (rows_ok _ _ _ _ O7.x).mono ?_
        rintro e w8 ⟨rfl, hb8⟩
        have T8 := Aside0.mk (T7.out.below hb8)
        clear hb8 O7 T7
        go_wp2_with (fail)
        obtain ⟨F8, O8⟩ := (T8.out).x1
        refine (rows_ok _ _ _ _ O8.x).mono ?_
        rintro e w9 ⟨rfl, hb9⟩
        have T9 := Aside0.mk (T8.out.below hb9)
        clear hb9 O8 T8
        go_wp2_with (fail)
        obtain ⟨F9, O9⟩ := (T9.out.swap).x1
        refine (bells_ok _ _ _ _ O9.x).mono ?_
        rintro e w10 ⟨rfl, hb10⟩
        have T10 := Aside0.mk (T9.out.below hb10)
        clear hb10 O9 T9
        go_wp2_with (fail)
        obtain ⟨F10, O10⟩ := (T10.out).x1
        refine (bells_ok _ _ _ _ O10.x).mono ?_
        rintro e w11 ⟨rfl, hb11⟩
        have T11 := Aside0.mk (T10.out.below hb11)
        clear hb11 O10 T10
        go_wp2_with (fail)
        obtain ⟨F11, O11⟩ := (T11.out.swap).x1
        refine (pastes_ok _ _ _ _ O11.x).mono ?_
        rintro e w12 ⟨rfl, hb12⟩
        have T12 := Aside0.mk (T11.out.below hb12)
        clear hb12 O11 T11
        go_wp2_with (fail)
        obtain ⟨F12, O12⟩ := (T12.out).x1
        refine (pastes_ok _ _ _ _ O12.x).mono ?_
        rintro e w13 ⟨rfl, hb13⟩
        have T13 := Aside0.mk (T12.out.below hb13)
        clear hb13 O12 T12
        go_wp2_with (fail)
        obtain ⟨F13, O13⟩ := (T13.out.swap).x1
        refine (odd_ok _ _ _ _ O13.x).mono ?_
        rintro e w14 ⟨rfl, hb14⟩
        have T14 := Aside0.mk (T13.out.below hb14)
        clear hb14 O13 T13
        go_wp2_with (fail)
        obtain ⟨F14, O14⟩ := (T14.out).x1
        refine (odd_ok _ _ _ _ O14.x).mono ?_
        rintro e w15 ⟨rfl, hb15⟩
        have T15 := Aside0.mk (T14.out.below hb15)
        clear hb15 O14 T14
        go_wp2_with (fail)
        obtain ⟨F15, O15⟩ := (T15.out.swap).x1
        refine (rows_ok _ _ _ _ O15.x).mono ?_
        rintro e w16 ⟨rfl, hb16⟩
        have T16 := Aside0.mk (T15.out.below hb16)
        clear hb16 O15 T15
        have hmin : min (S.rows.length : Int) 2000 = (S.rows.length : Int) := by omega
        go_wp2_with (fail)
        have T16' := T16
        go_loopw [118] (fun v118 wr => ∃ j : Nat, v118 = .int .i64 j ∧ Aside0 (j ≤ S.rows.length) ∧ Aside0 (Two w wr g2 S (1 + d + rest.length) g1 S (1 + l.length))) (fun v118 _ => S.rows.length - (intOf v118).toNat)
        case atStart => exact ⟨0, rfl, ⟨Nat.zero_le _⟩, T16'⟩
        case round =>
          obtain ⟨j, rfl, hj, hT⟩ := hrel
          have hj0 := hj.out
          by_cases hlt : j < S.rows.length
          · have hjI : (j : Int) < (S.rows.length : Int) := by omega
            obtain ⟨F1, O1⟩ := hT.out.swap.x1
            have R1 := rowS_ok wr g1 S F1 (1 + l.length) O1.x O1.f.fine (by omega) j hlt
            have T1 := hT
            clear O1 hT
            generalize htx : runesBytes (S.rows.getD j []) = tx at R1
            have htA := Aside0.mk htx
            clear htx
            go_wp2_with (fail)
            refine R1.mono ?_
            rintro e w20 ⟨rfl, hb20⟩
            have T2' := Aside0.mk (T1.out.below hb20)
            clear hb20 R1 T1
            obtain ⟨F2, O2⟩ := T2'.out.x1
            have R2 := rowS_ok w20 g2 S F2 (1 + d + rest.length) O2.x O2.f.fine (by omega) j hlt
            rw [htA.out] at R2
            clear O2
            go_wp2_with (fail)
            refine R2.mono ?_
            rintro e w21 ⟨rfl, hb21⟩
            have T3' := Aside0.mk (T2'.out.below hb21)
            clear hb21 R2 T2'
            go_wp2_with (fail)
            refine ⟨⟨j + 1, rfl, ⟨by omega⟩, T3'⟩, ?_⟩
            simp [intOf]
            omega
          · have hjI : (S.rows.length : Int) ≤ (j : Int) := by omega
            have hfin := Aside0.mk hT.out.b
            clear hT
            go_wp2_with (fail)
            go_ret
            exact ⟨rfl, hfin.out⟩
end Go.Proofs.YtmdeehblmkpddaaDoor.Hand
