/- The document's Bytes. -/
import Derived.Test.YtbiogabekhegaaaGreatDoorHandRefA7
import Derived.Test.YtbiogabekhegaaaGreatDoorHandParse07
namespace Go.Proofs.YtbiogabekhegaaaGreatDoor.Hand
open Go.RowKit Go.Proofs.YtbiogabekhegaaaGreatDoorW.PrintWords Go.Proofs.YtbiogabekhegaaaGreatDoorW.PrintLast
set_option linter.unusedVariables false
set_option linter.unusedSimpArgs false
theorem info5 : (Tryz.prog.info? 5).map (fun i => (i.zero, i.size, i.bytes)) = some (some (.int .u8 0), 1, 1) := by kernel_rfl
theorem udg_hex : ∀ c : Fin 256, isHex (UInt8.ofNat c.val) = (decide (0 ≤ udg (UInt8.ofNat c.val)) && decide (udg (UInt8.ofNat c.val) < 16)) ∧ (isHex (UInt8.ofNat c.val) = true → hexv (UInt8.ofNat c.val) = udg (UInt8.ofNat c.val)) := by decide +kernel
theorem udg_hex' (c : UInt8) : isHex c = (decide (0 ≤ udg c) && decide (udg c < 16)) ∧ (isHex c = true → hexv c = udg c) := by
  have h := udg_hex ⟨c.toNat, c.toNat_lt⟩
  have e : UInt8.ofNat c.toNat = c := UInt8.ofNat_toNat
  simp only [e] at h
  exact h
def pairS (a b : UInt8) : List UInt8 := if a = 48 then [b] else [a, b]
theorem pair_yes (a b : UInt8) (ha : isHex a = true) (hb : isHex b = true) : numB 16 2 (pairS a b) = 16 * hexv a + hexv b := by
  obtain ⟨a1, a2⟩ := udg_hex' a
  obtain ⟨b1, b2⟩ := udg_hex' b
  rw [ha] at a1
  rw [hb] at b1
  have a3 := a2 ha
  have b3 := b2 hb
  have ra := hexv_range a ha
  have rb := hexv_range b hb
  unfold pairS
  by_cases h : a = 48
  · subst h
    rw [if_pos rfl]
    have hd : isDigB 16 [b] = true := by unfold isDigB; simp only [List.all_cons, List.all_nil, Bool.and_true]; exact b1.symm
    unfold numB
    rw [if_neg (by intro e; rcases e with e | e | ⟨e1, e2⟩; · cases e
                   · exact absurd e (by simp)
                   · exact e2 (by rw [List.head?_cons, Option.some.injEq] at e1; rw [e1])), if_pos hd]
    have e0 : hexv 48 = 0 := by decide
    rw [e0, b3]
    show ((valB 16 [b] : Nat) : Int) = _
    unfold valB
    simp only [List.foldl_cons, List.foldl_nil]
    omega
  · rw [if_neg h]
    have hd : isDigB 16 [a, b] = true := by
      unfold isDigB
      simp only [List.all_cons, List.all_nil, Bool.and_true]
      rw [Bool.and_eq_true]
      exact ⟨a1.symm, b1.symm⟩
    unfold numB
    rw [if_neg (by intro e; rcases e with e | e | ⟨e1, e2⟩; · cases e
                   · exact absurd e (by simp)
                   · rw [List.head?_cons, Option.some.injEq] at e1; exact h e1), if_pos hd]
    rw [a3, b3]
    rw [a3] at ra
    rw [b3] at rb
    show ((valB 16 [a, b] : Nat) : Int) = _
    unfold valB
    simp only [List.foldl_cons, List.foldl_nil]
    omega
theorem pair_no (a b : UInt8) (h : (isHex a && isHex b) = false) : numB 16 2 (pairS a b) = -1 := by
  obtain ⟨a1, a2⟩ := udg_hex' a
  obtain ⟨b1, b2⟩ := udg_hex' b
  unfold pairS numB
  by_cases h48 : a = 48
  · subst h48
    rw [if_pos rfl]
    have hb : isHex b = false := by rw [show isHex 48 = true by decide, Bool.true_and] at h; exact h
    split
    · rfl
    · rw [if_neg]
      unfold isDigB
      simp only [List.all_cons, List.all_nil, Bool.and_true]
      intro e
      have e2 := b1.trans e
      rw [hb] at e2
      cases e2
  · rw [if_neg h48]
    split
    · rfl
    · rw [if_neg]
      unfold isDigB
      simp only [List.all_cons, List.all_nil, Bool.and_true]
      intro e
      rw [show (16 : Nat) = ((16 : Nat)) from rfl] at e
      have e2 : (isHex a && isHex b) = true := by rw [a1, b1]; exact e
      rw [h] at e2
      cases e2
theorem pairs_snoc : ∀ (n : Nat) (l : List UInt8) (a b : UInt8), l.length = 2 * n → pairsL (l ++ [a, b]) = pairsL l ++ [16 * hexv a + hexv b]
  | 0, l, a, b, h => by
    obtain rfl : l = [] := List.eq_nil_of_length_eq_zero (by omega)
    rfl
  | n + 1, l, a, b, h => by
    match l, h with
    | x :: y :: r, h =>
      show _ :: pairsL (r ++ [a, b]) = _ :: (pairsL r ++ _)
      rw [pairs_snoc n r a b (by simp at h; omega)]
theorem pairs_len : ∀ (n : Nat) (l : List UInt8), l.length = 2 * n → (pairsL l).length = n
  | 0, l, h => by
    obtain rfl : l = [] := List.eq_nil_of_length_eq_zero (by omega)
    rfl
  | n + 1, l, h => by
    match l, h with
    | x :: y :: r, h =>
      show (pairsL r).length + 1 = _
      rw [pairs_len n r (by simp at h; omega)]
theorem numb_ok (s : ByteArray) (b most : Nat) (w : World) (hb : 2 ≤ b) (h16 : b ≤ 16) (hm : most ≤ 100) (hp : b ^ most ≤ 4611686018427387904) : Calls Tryz.prog 33 #[.string s, .int .i64 b, .int .i64 most] w fun e w' => e = .returned (.int .i64 (numB b most s.data.toList)) ∧ Below w.heap.size w w' := by
  refine (PNumber.whispererref06_Number.calls 200 s b most _ w (num_up s b most 200 hb h16 (by omega) hp (by omega))).mono ?_
  rintro e w' ⟨rfl, hd⟩
  exact ⟨rfl, hd.below⟩
def BytesPost (l : List UInt8) (w : World) (e : Ending) (w' : World) : Prop := ∃ v, e = .returned (.tuple #[v, .bool (toldOk l)]) ∧ Kd.R (Kd.int .u8) 5 w' w.heap.size (fun _ => True) v (toldL l) ∧ Below w.heap.size w w'
theorem told_no {l : List UInt8} (h : toldOk l = false) : toldL l = [] := by
  unfold toldL
  split
  · rfl
  · rw [if_neg (by rw [h]; decide)]
set_option maxHeartbeats 4000000 in
set_option maxRecDepth 100000 in
theorem refBytes_ok (s : ByteArray) (hs : s.size ≤ 100000) (w : World) : Calls Tryz.prog 35 #[.string s] w (BytesPost s.data.toList w) := by
  have hsd : s.size = s.data.toList.length := Lib.size_eq s
  by_cases h45 : s = ⟨#[45]⟩
  · subst h45
    go_enter Tryz.func35, Tryz.ntmps35
    go_wp2_with (fail)
    go_ret2
    exact ⟨_, rfl, Kd.R_nil _ _ _ _ _, Below.refl _ _⟩
  · have t45 : (s.toList == [45]) = false := by
      have := ba_beq s ⟨#[45]⟩
      rw [decide_eq_false h45, show (⟨#[45]⟩ : ByteArray).toList = [45] by rw [ByteArray.toList_eq]] at this
      exact this
    by_cases h0 : s = ⟨#[]⟩
    · subst h0
      go_enter Tryz.func35, Tryz.ntmps35
      go_wp2_with (fail)
      go_ret2
      exact ⟨_, rfl, Kd.R_nil _ _ _ _ _, Below.refl _ _⟩
    · have hem : s.toList.isEmpty = false := by
        rw [ByteArray.toList_eq]
        cases hd : s.data.toList with
        | nil => exact absurd (ba_ext (by rw [hd])) h0
        | cons a r => rfl
      have hl45 : s.data.toList ≠ [45] := fun e => h45 (ba_ext (by rw [e]))
      have hl0 : s.data.toList ≠ [] := fun e => h0 (ba_ext (by rw [e]))
      by_cases hev : s.size % 2 = 0
      · have p1 : ((Int.tmod (s.size : Int) 2) != 0) = false := by rw [Int.tmod_eq_emod_of_nonneg (by omega)]; simp; omega
        have p2 : ((s.size : Int) % 2 != 0) = false := by simp; omega
        have hkA := Aside0.mk (And.intro hl45 hl0)
        have hsA := Aside0.mk hsd
        have hNb := Aside0.mk (fun (S : ByteArray) (W : World) => numb_ok S 16 2 W (by omega) (by omega) (by omega) (by decide))
        clear hl45 hl0 h45 h0 hsd
        generalize hn : s.size = n at *
        go_enter Tryz.func35, Tryz.ntmps35
        go_wp2_with (fail)
        go_loopw [4, 5] (fun v4 v5 wr => ∃ (p q : List UInt8) (i : Nat), v5 = .int .i64 (i : Int) ∧ Aside0 (s.data.toList = p ++ q ∧ p.length = i ∧ p.all isHex = true ∧ i % 2 = 0) ∧ Aside0 (Kd.R (Kd.int .u8) 5 wr w.heap.size (fun _ => True) v4 (pairsL p)) ∧ Aside0 (Below w.heap.size w wr)) (fun _ v5 _ => n - (intOf v5).toNat)
        case atStart => exact ⟨[], s.data.toList, 0, rfl, ⟨rfl, rfl, rfl, rfl⟩, ⟨Kd.R_nil _ _ _ _ _⟩, ⟨Below.refl _ _⟩⟩
        case round =>
          obtain ⟨p, q, i, rfl, hpq, hR, hB⟩ := hrel
          have hql : Aside0 (i + q.length = n) := ⟨by rw [hsA.out, hpq.out.1, List.length_append, hpq.out.2.1]⟩
          by_cases hlt : q = []
          · subst hlt
            have hnn : i = n := by have := hql.out; simpa using this
            have hall : toldOk s.data.toList = true := by
              unfold toldOk
              rw [hpq.out.1, List.append_nil, hpq.out.2.2.1, hpq.out.2.1]
              have h1 := hkA.out.1
              have h2 := hkA.out.2
              rw [hpq.out.1, List.append_nil] at h1 h2
              rw [decide_eq_false h1, decide_eq_true h2, decide_eq_true (by omega)]
              rfl
            have htl : toldL s.data.toList = pairsL p := by
              unfold toldL
              rw [if_neg hkA.out.1, if_pos hall, hpq.out.1, List.append_nil]
            have hfin := Aside0.mk (And.intro hall htl)
            clear hall htl
            go_wp2_with (fail)
            go_ret2
            unfold BytesPost
            rw [hfin.out.1, hfin.out.2]
            exact ⟨_, rfl, hR.out, hB.out⟩
          · obtain ⟨a, b, r, rfl⟩ : ∃ a b r, q = a :: b :: r := by
              match q, hlt, hql with
              | [], h, _ => exact absurd rfl h
              | [a], _, h => have h1 := h.out; have h2 := hpq.out.2.2.2; simp only [List.length_cons, List.length_nil] at h1; omega
              | a :: b :: r, _, _ => exact ⟨a, b, r, rfl⟩
            have hle : i + 2 ≤ n := by have := hql.out; simp only [List.length_cons] at this; omega
            have hw64 : wrap64 ((i : Int) + 2) = (i : Int) + 2 := by unfold wrap64; omega
            have hcut : (s.extract i (i + 2)) = ba [a, b] := by
              refine Eq.trans (ByteArray.extract_mk s.data.toList i (i + 2) : s.extract i (i + 2) = _) ?_
              rw [hpq.out.1, show i = p.length from hpq.out.2.1.symm, List.drop_left, show p.length + 2 - p.length = 2 by omega]
              rfl
            have hs1 : ∀ W : World, (Instr.slice 9 (.string s) (some (.int .i64 (i : Int))) (some (.int .i64 ((i : Int) + 2))) none).run Tryz.prog W = .ok (.string (ba [a, b])) W := fun W => by
              rw [run_slice_string W 9 s .i64 .i64 (i : Int) ((i : Int) + 2) Tryz.underlying9 (by omega) (by omega) (by rw [hn]; omega)]
              rw [Int.toNat_natCast, show ((i : Int) + 2).toNat = i + 2 by omega, hcut]
            have hs2 : ∀ W : World, (Instr.index 9 (.string (ba [a, b])) (.int .i64 0)).run Tryz.prog W = .ok (.int .u8 a.toNat) W := fun W => rfl
            have hs3 : ∀ W : World, (Instr.slice 9 (.string (ba [a, b])) (some (.int .i64 1)) none none).run Tryz.prog W = .ok (.string (ba [b])) W := fun W => rfl
            have hNA := fun S W => hNb.out S W
            obtain ⟨A4, c4, rfl⟩ := Kd.R_slice hR.out
            have hpl : (pairsL p).length ≤ 100000 := by rw [pairs_len (i / 2) p (by rw [hpq.out.2.1]; have := hpq.out.2.2.2; omega)]; omega
            clear hlt hcut
            by_cases hyes : (isHex a && isHex b) = true
            · have hab := hyes
              rw [Bool.and_eq_true] at hab
              have ra := hexv_range a hab.1
              have rb := hexv_range b hab.2
              have hyes2 : Aside0 ((p ++ [a, b]).all isHex = true) := ⟨by rw [List.all_append, hpq.out.2.2.1]; simp [hab.1, hab.2]⟩
              have hsnoc := Aside0.mk (pairs_snoc (i / 2) p a b (by rw [hpq.out.2.1]; have := hpq.out.2.2.2; omega))
              have hpy := pair_yes a b hab.1 hab.2
              unfold pairS at hpy
              clear hyes
              by_cases h48 : a = 48
              · rw [if_pos h48] at hpy
                have hc : ((a.toNat : Int) == 48) = true := by rw [h48]; rfl
                have hnum := Aside0.mk hpy
                clear hpy h48 hab
                go_wp2_with (fail)
                refine (hNA (ba [b]) _).mono ?_
                rintro e w2 ⟨rfl, hb2⟩
                rw [data_ba, hnum.out]
                have hB2 := Aside0.mk (hB.out.trans (hb2.mono hB.out.size))
                have hR2 := Aside0.mk (Kd.R_below hR.out hb2)
                clear hb2 hNA hs1 hs2 hs3
                have hVr : 0 ≤ 16 * hexv a + hexv b ∧ 16 * hexv a + hexv b ≤ 255 := by omega
                generalize 16 * hexv a + hexv b = V at *
                have hV0 : ¬ V < 0 := by omega
                have hVw : IntKind.u8.wrap V = V := by rw [IntKind.wrap_u8']; omega
                have hVm : V % 256 = V := by omega
                go_wp2_with ((with_reducible refine gate_builtin (b := .append) (xs := #[.tmp 38, .tmp 41]) rfl ?_); at_builtin; refine Kd.R_append (Kd.int .u8) (w0 := w) w.heap.size rfl (.tmp 38) (.tmp 41) 22 5 (.int .u8 0) 1 rfl Tryz.underlying22 info5 rfl (by decide) (by decide) _ (pairsL p) V _ (fun _ => True) (fun _ => False) rfl rfl rfl (fun _ h => h.elim) (fun _ _ => trivial) hR2.out hB2.out hB2.out.size (by omega) ?_; intro v6 w6 ho6 hb6 hg6 hat6)
                go_roundw
                case rel =>
                  refine ⟨p ++ [a, b], r, i + 2, by go_num, ⟨by rw [hpq.out.1]; simp, by rw [List.length_append, hpq.out.2.1]; rfl, hyes2.out, by have := hpq.out.2.2.2; omega⟩, ⟨by rw [hsnoc.out]; exact ho6⟩, ⟨hb6⟩⟩
                case measure => simp [intOf]; omega
              · rw [if_neg h48] at hpy
                have hc : ((a.toNat : Int) == 48) = false := by
                  rw [beq_eq_false_iff_ne]
                  intro e
                  exact h48 (UInt8.toNat_inj.mp (by show a.toNat = 48; omega))
                have hnum := Aside0.mk hpy
                clear hpy h48 hab
                go_wp2_with (fail)
                refine (hNA (ba [a, b]) _).mono ?_
                rintro e w2 ⟨rfl, hb2⟩
                rw [data_ba, hnum.out]
                have hB2 := Aside0.mk (hB.out.trans (hb2.mono hB.out.size))
                have hR2 := Aside0.mk (Kd.R_below hR.out hb2)
                clear hb2 hNA hs1 hs2 hs3
                have hVr : 0 ≤ 16 * hexv a + hexv b ∧ 16 * hexv a + hexv b ≤ 255 := by omega
                generalize 16 * hexv a + hexv b = V at *
                have hV0 : ¬ V < 0 := by omega
                have hVw : IntKind.u8.wrap V = V := by rw [IntKind.wrap_u8']; omega
                have hVm : V % 256 = V := by omega
                go_wp2_with ((with_reducible refine gate_builtin (b := .append) (xs := #[.tmp 38, .tmp 41]) rfl ?_); at_builtin; refine Kd.R_append (Kd.int .u8) (w0 := w) w.heap.size rfl (.tmp 38) (.tmp 41) 22 5 (.int .u8 0) 1 rfl Tryz.underlying22 info5 rfl (by decide) (by decide) _ (pairsL p) V _ (fun _ => True) (fun _ => False) rfl rfl rfl (fun _ h => h.elim) (fun _ _ => trivial) hR2.out hB2.out hB2.out.size (by omega) ?_; intro v6 w6 ho6 hb6 hg6 hat6)
                go_roundw
                case rel =>
                  refine ⟨p ++ [a, b], r, i + 2, by go_num, ⟨by rw [hpq.out.1]; simp, by rw [List.length_append, hpq.out.2.1]; rfl, hyes2.out, by have := hpq.out.2.2.2; omega⟩, ⟨by rw [hsnoc.out]; exact ho6⟩, ⟨hb6⟩⟩
                case measure => simp [intOf]; omega
            · have hyf : (isHex a && isHex b) = false := Bool.eq_false_iff.mpr hyes
              have hno : Aside0 (toldOk s.data.toList = false) := ⟨by
                unfold toldOk
                rw [decide_eq_false hkA.out.1, hpq.out.1]
                rw [List.all_append, List.all_cons, List.all_cons, ← Bool.and_assoc (isHex a), hyf]
                simp⟩
              have hpn := pair_no a b hyf
              unfold pairS at hpn
              clear hyes hyf
              by_cases h48 : a = 48
              · rw [if_pos h48] at hpn
                have hc : ((a.toNat : Int) == 48) = true := by rw [h48]; rfl
                have hnum := Aside0.mk hpn
                clear hpn h48
                go_wp2_with (fail)
                refine (hNA (ba [b]) _).mono ?_
                rintro e w2 ⟨rfl, hb2⟩
                rw [data_ba, hnum.out]
                have hB2 := Aside0.mk (hB.out.trans (hb2.mono hB.out.size))
                clear hb2 hNA hs1 hs2 hs3
                go_wp2_with (fail)
                go_ret2
                unfold BytesPost
                rw [told_no hno.out, hno.out]
                exact ⟨_, rfl, Kd.R_nil _ _ _ _ _, hB2.out⟩
              · rw [if_neg h48] at hpn
                have hc : ((a.toNat : Int) == 48) = false := by
                  rw [beq_eq_false_iff_ne]
                  intro e
                  exact h48 (UInt8.toNat_inj.mp (by show a.toNat = 48; omega))
                have hnum := Aside0.mk hpn
                clear hpn h48
                go_wp2_with (fail)
                refine (hNA (ba [a, b]) _).mono ?_
                rintro e w2 ⟨rfl, hb2⟩
                rw [data_ba, hnum.out]
                have hB2 := Aside0.mk (hB.out.trans (hb2.mono hB.out.size))
                clear hb2 hNA hs1 hs2 hs3
                go_wp2_with (fail)
                go_ret2
                unfold BytesPost
                rw [told_no hno.out, hno.out]
                exact ⟨_, rfl, Kd.R_nil _ _ _ _ _, hB2.out⟩
      · have p1 : ((Int.tmod (s.size : Int) 2) != 0) = true := by rw [Int.tmod_eq_emod_of_nonneg (by omega)]; simp; omega
        have p2 : ((s.size : Int) % 2 != 0) = true := by simp; omega
        have hno : toldOk s.data.toList = false := by
          unfold toldOk
          rw [decide_eq_false hl45, ← hsd, decide_eq_false hev]
          simp
        have hnA := Aside0.mk hno
        clear hno hl45 hl0 hsd
        go_enter Tryz.func35, Tryz.ntmps35
        go_wp2_with (fail)
        go_ret2
        unfold BytesPost
        rw [told_no hnA.out, hnA.out]
        exact ⟨_, rfl, Kd.R_nil _ _ _ _ _, Below.refl _ _⟩
end Go.Proofs.YtbiogabekhegaaaGreatDoor.Hand
