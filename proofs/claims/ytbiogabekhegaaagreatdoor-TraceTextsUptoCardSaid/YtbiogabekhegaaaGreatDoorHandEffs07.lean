/- trace.Format; great. -/
import Derived.Test.YtbiogabekhegaaaGreatDoorHandLine7c
import Derived.Test.YtbiogabekhegaaaGreatDoorHandTabOf07
namespace Go.Proofs.YtbiogabekhegaaaGreatDoor.Hand
open Go.RowKit Go.Proofs.YtbiogabekhegaaaGreatDoorW.PrintWords Go.Proofs.YtbiogabekhegaaaGreatDoorW.PrintLast
open Go.Proofs.YtbiogabekhegaaaGreatDoor.PWritten (S27 S25 k27 z27 rd_T27 at_T27 k27_mk)
set_option linter.unusedVariables false
set_option linter.unusedSimpArgs false
theorem builder_below {B b : Nat} {bs : List Value} {W W' : World} (h : Lib.IsBuilder 78 5 B b bs W) (hb : Below W.heap.size W W') : Lib.IsBuilder 78 5 B b bs W' :=
  h.elim (fun ⟨h1, v, h2, h3, h4⟩ => .inl ⟨h1, v, (hb.block _ (blk_lt h2)).trans h2, pw_own_below h3 hb, h4⟩) (fun ⟨h1, v, h2, h3, h4⟩ => .inr ⟨h1, v, (hb.block _ (blk_lt h2)).trans h2, pw_own_below h3 hb, h4⟩)
/-- What an effect must be that is written. -/
structure EffWr (x : S27) : Prop where
  i : inA x.f1.f0 x.f1.f1 x.f1.f2 = true
  d : ∀ y ∈ x.f2, 0 ≤ y ∧ y ≤ 255
  n0 : -9223372036854775808 ≤ x.f3
  n1 : x.f3 ≤ 9223372036854775807
  l : x.f2.length ≤ 1000000000
theorem wrK_sizeE (k : Nat) (x : S27) (h : EffWr x) : (wrK k x).size ≤ 2000000200 := by
  unfold wrK
  split
  · exact Nat.le_trans (textI_size _ _ _ h.i) (by omega)
  · split
    · have h1 := hexB_size x.f2 h.l
      have h2 := itoa_len x.f3 h.n0 h.n1
      rw [ByteArray.size_append, ByteArray.size_append]
      show (hexB x.f2).size + 1 + _ ≤ _
      omega
    · exact Nat.le_trans (itoa_len x.f3 h.n0 h.n1) (by omega)
theorem lineB_size (k : Nat) (x : S27) (h : EffWr x) : (lineB k x).size ≤ 6000000602 := by
  have hw := wrK_sizeE k x h
  have hk : (kWord k).size ≤ 2000000200 := by
    unfold kWord kWords
    rcases Nat.lt_or_ge k 7 with h7 | h7
    · obtain rfl | rfl | rfl | rfl | rfl | rfl | rfl : k = 0 ∨ k = 1 ∨ k = 2 ∨ k = 3 ∨ k = 4 ∨ k = 5 ∨ k = 6 := by omega
      all_goals decide
    · rw [List.getD_eq_getElem?_getD, List.getElem?_eq_none (by simpa using h7)]; exact Nat.zero_le _
  have hok : (if x.f4 = true then okW else failW).size ≤ 2000000200 := by split <;> decide
  rw [Lib.size_eq]
  unfold lineB
  rw [show ∀ l : List UInt8, (⟨l.toArray⟩ : ByteArray).data.toList = l from fun l => by simp]
  have j1 := join_len3 (kWord k) (if x.f4 = true then okW else failW) (wrK k x) _ hk hok hw
  have j2 := join_len3 (kWord k) (wrK k x) (wrK k x) _ hk hw hw
  unfold lineW
  by_cases h1 : kWent k = true
  · by_cases h2 : 0 < kMore k
    · rw [if_pos h1, if_pos h2]; exact j1.1
    · rw [if_pos h1, if_neg h2]; exact j1.2.1
  · by_cases h2 : 0 < kMore k
    · rw [if_neg h1, if_pos h2]; exact j2.2.1
    · rw [if_neg h1, if_neg h2]; exact j2.2.2
theorem lineR_size (x : S27) (h : EffWr x) : (lineR x).1.size ≤ 6000000602 := by
  unfold lineR
  split
  · exact Nat.zero_le _
  · split
    · exact Nat.zero_le _
    · exact lineB_size _ x h
def fmtE (x : S27) : List UInt8 := (lineR x).1.data.toList ++ [10]
def fmtL (xs : List S27) : List UInt8 := xs.flatMap fmtE
def fmtBad : List S27 → Int
  | [] => 0
  | x :: r => if (lineR x).2 = 0 then fmtBad r else (lineR x).2
def fmtR (xs : List S27) : ByteArray × Int := if fmtBad xs = 0 then (⟨(fmtL xs).toArray⟩, 0) else (⟨#[]⟩, fmtBad xs)
theorem fmtL_len (xs : List S27) (h : ∀ x ∈ xs, EffWr x) : (fmtL xs).length ≤ 6000000603 * xs.length := by
  induction xs with
  | nil => exact Nat.le_refl _
  | cons x r ih =>
    have h1 := ih (fun y hy => h y (List.mem_cons_of_mem _ hy))
    have h2 := lineR_size x (h x List.mem_cons_self)
    have e : fmtL (x :: r) = fmtE x ++ fmtL r := rfl
    have e2 : (fmtE x).length = (lineR x).1.size + 1 := by unfold fmtE; rw [List.length_append, Lib.size_eq]; rfl
    rw [e, List.length_append, e2, List.length_cons, Nat.mul_add]
    omega
theorem fmtR_size (xs : List S27) (h : ∀ x ∈ xs, EffWr x) : (fmtR xs).1.size ≤ 6000000603 * xs.length := by
  unfold fmtR
  split
  · rw [Lib.size_eq]
    show (fmtL xs).toArray.toList.length ≤ _
    simpa using fmtL_len xs h
  · exact Nat.zero_le _
theorem fmtL_app (a b : List S27) : fmtL (a ++ b) = fmtL a ++ fmtL b := by unfold fmtL; simp
theorem fmtBad_app (a b : List S27) : fmtBad (a ++ b) = if fmtBad a = 0 then fmtBad b else fmtBad a := by
  induction a with
  | nil => rfl
  | cons x r ih =>
    show (if (lineR x).2 = 0 then fmtBad (r ++ b) else (lineR x).2) = if (if (lineR x).2 = 0 then fmtBad r else (lineR x).2) = 0 then fmtBad b else (if (lineR x).2 = 0 then fmtBad r else (lineR x).2)
    by_cases h : (lineR x).2 = 0
    · rw [if_pos h, if_pos h, ih]
    · rw [if_neg h, if_neg h, if_neg h]
theorem take_rd7 {xs : List S27} {j : Nat} (h : j < xs.length) : xs.take (j + 1) = xs.take j ++ [rd_T27 xs j] := take_rd h
theorem fmtBad_at {xs : List S27} {j : Nat} (h : j < xs.length) (h0 : fmtBad (xs.take j) = 0) (h1 : (lineR (rd_T27 xs j)).2 ≠ 0) : fmtBad xs = (lineR (rd_T27 xs j)).2 := by
  have e : xs = xs.take j ++ ([rd_T27 xs j] ++ xs.drop (j + 1)) := by rw [← List.append_assoc, ← take_rd7 h, List.take_append_drop]
  conv => lhs; rw [e]
  rw [fmtBad_app, if_pos h0]
  exact if_neg h1
theorem fmtBad_snoc {xs : List S27} {j : Nat} (h : j < xs.length) (h0 : fmtBad (xs.take j) = 0) (h1 : (lineR (rd_T27 xs j)).2 = 0) : fmtBad (xs.take (j + 1)) = 0 := by
  rw [take_rd7 h, fmtBad_app, if_pos h0]
  show (if (lineR (rd_T27 xs j)).2 = 0 then 0 else _) = 0
  rw [if_pos h1]
theorem fmtL_snoc {xs : List S27} {j : Nat} (h : j < xs.length) : fmtL (xs.take (j + 1)) = fmtL (xs.take j) ++ fmtE (rd_T27 xs j) := by
  rw [take_rd7 h, fmtL_app]
  unfold fmtL; simp
set_option maxHeartbeats 8000000 in
set_option maxRecDepth 100000 in
theorem format_ok (xs : List S27) (A : Option Addr) (c : Nat) (w : World) (HT : TabA w) (hx : Kd.C k27 w A xs.length xs) (hE : ∀ x ∈ xs, EffWr x) (hn : xs.length ≤ 20000) :
    Calls Tryz.prog 17 #[.slice A xs.length c] w fun e w' => e = .returned (.tuple #[.string (fmtR xs).1, .int .i64 (fmtR xs).2]) ∧ Below w.heap.size w w' := by
  have HX := Aside0.mk hx
  have HE := Aside0.mk hE
  have hHT := Aside0.mk HT
  have hF := Aside0.mk (Lib.fresh_isBuilder 78 5 w)
  have hb0 := Aside0.mk ((Below.refl _ w).alloc (Nat.le_refl _) (.cells #[.pointer none, .slice none 0 0] 78))
  clear hx hE HT
  generalize hxn : xs.length = n at *
  have hnA := Aside0.mk hxn
  clear hxn
  go_enter Tryz.func17, Tryz.ntmps17
  go_wp2_with (fail)
  go_loopw [11] (fun v11 wr => ∃ x : Int, v11 = .int .i64 x ∧ Aside0 (0 ≤ x ∧ x ≤ n) ∧ Aside0 (fmtBad (xs.take x.toNat) = 0 ∧ (fmtL (xs.take x.toNat)).length ≤ 6000000603 * x.toNat) ∧ Aside0 (Lib.IsBuilder 78 5 w.heap.size w.heap.size (Lib.byteCells (fmtL (xs.take x.toNat))) wr) ∧ Aside0 (Below w.heap.size w wr)) (fun v11 _ => n - (intOf v11).toNat)
  case atStart => exact ⟨0, rfl, ⟨by omega⟩, ⟨rfl, Nat.le_refl _⟩, hF, hb0⟩
  case round =>
    obtain ⟨x, rfl, hxr, hok, hI, hB⟩ := hrel
    by_cases hlt : x < n
    · have h0 : 0 ≤ x := hxr.out.1
      obtain ⟨ad, A4, c4, eA, x0, x1, x2, x3, x4, x5, x6, xl, xC⟩ := at_T27 (Kd.C_below HX.out hB.out) x h0 hlt
      subst eA
      have hxx : x = ((x.toNat : Nat) : Int) := by omega
      have hjl : x.toNat < xs.length := by rw [hnA.out]; omega
      have hew := Aside0.mk (HE.out (rd_T27 xs x) (by unfold rd_T27; rw [List.getD_eq_getElem?_getD, List.getElem?_eq_getElem hjl]; exact List.getElem_mem _))
      have hbd := Aside0.mk (fun h1 : (lineR (rd_T27 xs x)).2 ≠ 0 => fmtBad_at hjl hok.out.1 (by rw [← hxx]; exact h1))
      have hsn := Aside0.mk (fun h1 : (lineR (rd_T27 xs x)).2 = 0 => fmtBad_snoc hjl hok.out.1 (by rw [← hxx]; exact h1))
      have hsl : Aside0 (fmtL (xs.take (x.toNat + 1)) = fmtL (xs.take x.toNat) ++ fmtE (rd_T27 xs x)) := ⟨by rw [fmtL_snoc hjl, ← hxx]⟩
      rw [← hxx] at hbd
      have hlm := Aside0.mk hok.out.2
      have hal1 : Below wr.heap.size wr (wr.alloc (.cells (effV (rd_T27 xs x) A4 c4) 27)) := (Below.refl _ wr).alloc (Nat.le_refl _) _
      have hE := Aside0.mk (heap_alloc_new wr (.cells (effV (rd_T27 xs x) A4 c4) 27))
      have hAL := Aside0.mk (hB.out.trans (hal1.mono hB.out.size))
      have hEO : EffOk (rd_T27 xs x) A4 c4 (wr.alloc (.cells (effV (rd_T27 xs x) A4 c4) 27)) := ⟨xl, Kd.C_below xC hal1, hew.out.i, hew.out.d, hew.out.n0, hew.out.n1, hew.out.l⟩
      have hI1 := Aside0.mk (builder_below hI.out hal1)
      have hsz := Aside0.mk (lineR_size _ hew.out)
      have HL := Aside0.mk (Line_ok (rd_T27 xs x) A4 c4 _ (hHT.out.below hAL.out) hEO)
      clear xC xl hal1 hI hEO hxx hjl hew hB
      generalize fmtL (xs.take x.toNat) = acc at *
      generalize rd_T27 xs x = E at *
      go_upto_region 5 with (fail)
      generalize wr.alloc (.cells _ 27) = W at *
      obtain ⟨m0, m1, m2, m3, m4, m5, m6⟩ := effV_cells hE.out
      have hw64 : wrap64 (x + 1) = x + 1 := by unfold wrap64; omega
      clear x0 x1 x2 x3 x4 x5 x6
      go_wp2_with (fail)
      refine HL.out.mono ?_
      rintro e w5 ⟨rfl, hb5⟩
      have hB5 := Aside0.mk (hAL.out.trans (hb5.mono hAL.out.size))
      have hI5 := Aside0.mk (builder_below hI1.out hb5)
      have hfe : Aside0 (fmtE E = (lineR E).1.data.toList ++ [10]) := ⟨rfl⟩
      clear HL hb5 hAL hI1 m0 m1 m2 m3 m4 m5 m6
      generalize lineR E = R at *
      obtain ⟨s, bad⟩ := R
      by_cases hbz : bad = 0
      · subst hbz
        have hs6 : s.size ≤ 6000000602 := hsz.out
        have hcat : (s ++ ⟨#[10]⟩ : ByteArray).size ≤ 6000000603 := by rw [ByteArray.size_append]; show s.size + 1 ≤ _; omega
        have hc9 : s.size + 1 ≤ 9223372036854775807 := by omega
        have hce : Lib.strCells (s ++ ⟨#[10]⟩ : ByteArray) = Lib.byteCells (fmtE E) := by
          rw [hfe.out, Lib.strCells_eq]
          congr 1
        have hcA := Aside0.mk hcat
        have hceA := Aside0.mk hce
        have hla : Aside0 ((Lib.byteCells acc).length + (s ++ ⟨#[10]⟩ : ByteArray).size ≤ 140737488355328) := ⟨by rw [Lib.byteCells_length]; have := hlm.out; omega⟩
        have hlb : Aside0 ((acc ++ fmtE E).length ≤ 6000000603 * (x.toNat + 1)) := ⟨by
          have h1 := congrArg List.length hce
          rw [Lib.byteCells_length] at h1
          have h2 := Lib.strCells_length (s ++ ⟨#[10]⟩ : ByteArray)
          rw [List.length_append]; have := hlm.out; omega⟩
        clear hcat hce
        go_wp2_with (fail)
        refine (writeString_ok w.heap.size w.heap.size _ _ _ hI5.out hla.out hB5.out.size).mono ?_
        rintro e w6 ⟨rfl, hI6, hb6⟩
        have hI6A := Aside0.mk hI6
        have hB6 := Aside0.mk (hB5.out.trans hb6)
        clear hI6 hb6 hI5 hB5
        go_wp2_with (fail)
        go_roundw
        case rel =>
          refine ⟨x + 1, by go_num, ⟨by omega⟩, ⟨?_⟩, ⟨?_⟩, hB6⟩
          · rw [show (x + 1).toNat = x.toNat + 1 by omega, hsl.out]
            exact ⟨hsn.out trivial, hlb.out⟩
          · rw [show (x + 1).toNat = x.toNat + 1 by omega, hsl.out]
            have h3 := hI6A.out
            rw [hceA.out] at h3
            rw [show Lib.byteCells (acc ++ fmtE E) = Lib.byteCells acc ++ Lib.byteCells (fmtE E) by simp [Lib.byteCells]]
            exact .inr h3
        case measure => simp [intOf]; omega
      · have hbz' : (bad != 0) = true := bne_iff_ne.mpr hbz
        have hfin : Aside0 (fmtR xs = (⟨#[]⟩, bad)) := ⟨by unfold fmtR; rw [hbd.out hbz, if_neg hbz]⟩
        go_wp2_with (fail)
        go_ret2
        exact ⟨by rw [hfin.out]; rfl, hB5.out⟩
    · have hxn : x = n := by have := hxr.out; omega
      subst hxn
      have hI2 := hI.out
      have hok2 := hok.out.1
      rw [Int.toNat_natCast, List.take_of_length_le (by rw [hnA.out]; exact Nat.le_refl _)] at hI2 hok2
      have hIA := Aside0.mk hI2
      have hfin : Aside0 (fmtR xs = (⟨(fmtL xs).toArray⟩, 0)) := ⟨if_pos hok2⟩
      clear hI2 hI hok2 hok
      go_wp2_with (fail)
      refine (builderString_ok w.heap.size w.heap.size (fmtL xs) _ hIA.out hB.out.size).mono ?_
      rintro e w5 ⟨rfl, hb5⟩
      go_wp2_with (fail)
      go_ret2
      exact ⟨by rw [hfin.out]; rfl, hB.out.trans hb5⟩
def greatN (xs : List S27) : Nat := (xs.map fun e => 1 + e.f2.length).sum
theorem greatN_app (a b : List S27) : greatN (a ++ b) = greatN a + greatN b := by unfold greatN; simp
theorem greatN_snoc {xs : List S27} {j : Nat} (h : j < xs.length) : greatN (xs.take (j + 1)) = greatN (xs.take j) + (1 + (rd_T27 xs j).f2.length) := by
  rw [take_rd7 h, greatN_app]; unfold greatN; simp
theorem greatN_take (xs : List S27) (j : Nat) : greatN (xs.take j) ≤ greatN xs := by
  conv => rhs; rw [← List.take_append_drop j xs]
  rw [greatN_app]; omega
theorem greatN_len (xs : List S27) : xs.length ≤ greatN xs := by
  induction xs with
  | nil => exact Nat.le_refl _
  | cons x r ih =>
    have : greatN (x :: r) = 1 + x.f2.length + greatN r := rfl
    rw [this, List.length_cons]; omega
theorem greatN_mem {xs : List S27} {x : S27} (h : x ∈ xs) : x.f2.length ≤ greatN xs := by
  induction xs with
  | nil => cases h
  | cons y r ih =>
    have e : greatN (y :: r) = 1 + y.f2.length + greatN r := rfl
    rcases List.mem_cons.1 h with rfl | h
    · omega
    · have := ih h; omega
set_option maxHeartbeats 8000000 in
set_option maxRecDepth 100000 in
theorem great_ok (xs : List S27) (A : Option Addr) (c : Nat) (w : World) (hx : Kd.C k27 w A xs.length xs) (hg : greatN xs ≤ 1000000000000) :
    Calls Tryz.prog 16 #[.slice A xs.length c] w fun e w' => e = .returned (.bool (decide (1500 < greatN xs))) ∧ Below w.heap.size w w' := by
  have HX := Aside0.mk hx
  have hln : Aside0 (xs.length ≤ 1000000000000) := ⟨Nat.le_trans (greatN_len xs) hg⟩
  have HG := Aside0.mk hg
  clear hx hg
  generalize hxn : xs.length = n at *
  have hnA := Aside0.mk hxn
  have hnb := hln.out
  clear hxn
  go_enter Tryz.func16, Tryz.ntmps16
  go_wp2_with (fail)
  go_loopw [3, 8] (fun v3 v8 wr => ∃ x : Int, v8 = .int .i64 x ∧ Aside0 (0 ≤ x ∧ x ≤ n) ∧ v3 = .int .i64 (greatN (xs.take x.toNat) : Nat) ∧ Aside0 (Below w.heap.size w wr)) (fun _ v8 _ => n - (intOf v8).toNat)
  case atStart => exact ⟨0, rfl, ⟨by omega⟩, rfl, ⟨Below.refl _ _⟩⟩
  case round =>
    obtain ⟨x, rfl, hxr, rfl, hB⟩ := hrel
    by_cases hlt : x < n
    · have h0 : 0 ≤ x := hxr.out.1
      obtain ⟨ad, A4, c4, eA, x0, x1, x2, x3, x4, x5, x6, xl, xC⟩ := at_T27 (Kd.C_below HX.out hB.out) x h0 hlt
      subst eA
      have hxx : x = ((x.toNat : Nat) : Int) := by omega
      have hjl : x.toNat < xs.length := by rw [hnA.out]; omega
      have hs1 := greatN_snoc hjl
      rw [← hxx] at hs1
      have hle := Nat.le_trans (greatN_take xs (x.toNat + 1)) HG.out
      have hal1 : Below wr.heap.size wr (wr.alloc (.cells (effV (rd_T27 xs x) A4 c4) 27)) := (Below.refl _ wr).alloc (Nat.le_refl _) _
      have hE := Aside0.mk (heap_alloc_new wr (.cells (effV (rd_T27 xs x) A4 c4) 27))
      have hAL := Aside0.mk (hB.out.trans (hal1.mono hB.out.size))
      have hsA := Aside0.mk hs1
      rw [hs1] at hle
      clear xC xl hal1 hxx hjl hB hs1
      generalize greatN (xs.take x.toNat) = acc at *
      generalize rd_T27 xs x = E at *
      go_upto_region 5 with (fail)
      generalize wr.alloc (.cells _ 27) = W at *
      have m4 : W.cell? ⟨wr.heap.size, 4, none⟩ = some (.slice A4 E.f2.length c4) := blk_cell hE.out 4
      have hw64 : wrap64 (x + 1) = x + 1 := by unfold wrap64; omega
      have hw65 : wrap64 (1 + (E.f2.length : Int)) = 1 + E.f2.length := by unfold wrap64; omega
      have hw66 : wrap64 ((acc : Int) + (1 + (E.f2.length : Int))) = acc + (1 + E.f2.length) := by unfold wrap64; omega
      clear x0 x1 x2 x3 x4 x5 x6
      go_wp2_with (fail)
      go_roundw
      case rel =>
        refine ⟨x + 1, by go_num, ⟨by omega⟩, ?_, hAL⟩
        rw [show (x + 1).toNat = x.toNat + 1 by omega, hsA.out]
        congr 1
      case measure => simp [intOf]; omega
    · have hxn : x = n := by have := hxr.out; omega
      subst hxn
      rw [Int.toNat_natCast, List.take_of_length_le (by rw [hnA.out]; exact Nat.le_refl _)]
      have hdd : (decide ((1500 : Int) < (greatN xs : Nat))) = decide (1500 < greatN xs) := by
        by_cases h : 1500 < greatN xs
        · rw [decide_eq_true h, decide_eq_true (by omega)]
        · rw [decide_eq_false h, decide_eq_false (by omega)]
      have hdA := Aside0.mk hdd
      clear hdd
      go_wp2_with (fail)
      go_ret
      exact ⟨by first | rfl | rw [← hdA.out]; rfl, hB.out⟩
end Go.Proofs.YtbiogabekhegaaaGreatDoor.Hand

namespace Go.Proofs.YtbiogabekhegaaaGreatDoor.Hand
open Go.RowKit Go.Deep Go.ChangeShapes Go.WideShapes Go.Proofs.YtbiogabekhegaaaGreatDoorW.PrintWords
open Go.Proofs.YtbiogabekhegaaaGreatDoor.PWritten (S27 S25 k27 z27 rd_T27 at_T27 k27_mk)
set_option linter.unusedVariables false
theorem bulk_one {H : Type} (d : DataW H) : 1 ≤ Rows.uptoBulk d := by
  cases d with
  | lit l => cases l <;> simp [Rows.uptoBulk]
  | nil => simp [Rows.uptoBulk]
  | ptr d => simp [Rows.uptoBulk]
  | slice elems spare => simp [Rows.uptoBulk]
  | agg parts => simp [Rows.uptoBulk]
  | iface t d => simp [Rows.uptoBulk]
  | map entries => simp [Rows.uptoBulk]
  | held h => simp [Rows.uptoBulk]
theorem bulk_mem {H : Type} {d : DataW H} {l : List (DataW H)} (h : d ∈ l) : Rows.uptoBulk d ≤ Rows.uptoBulkAll l := by
  induction l with
  | nil => cases h
  | cons x r ih =>
    simp only [Rows.uptoBulkAll]
    cases List.mem_cons.1 h with
    | inl e => subst e; omega
    | inr e => have := ih e; omega
theorem bulk_len {H : Type} (l : List (DataW H)) : l.length ≤ Rows.uptoBulkAll l := by
  induction l with
  | nil => simp [Rows.uptoBulkAll]
  | cons x r ih => have := bulk_one x; simp only [Rows.uptoBulkAll, List.length_cons]; omega
theorem bulk_slice {H : Type} (elems spare : List (DataW H)) : Rows.uptoBulkAll elems + 1 ≤ Rows.uptoBulk (.slice elems spare) := by
  simp only [Rows.uptoBulk]
  omega
theorem bulk_agg {H : Type} (parts : List (DataW H)) : Rows.uptoBulk (.agg parts) = Rows.uptoBulkAll parts + 1 := by
  simp only [Rows.uptoBulk]
theorem eff_bulk {H : Type} {enc : TypeId × Value → H} {W : World} {held : Bool} {n : Nat} {E : S27} {A : Option Addr} {c : Nat} {x : DataW H × List MemPlace} (h : DataW.trod enc Tryz.prog W 0 (fun _ => true) held n 27 (effV E A c).toList = some x) : 1 + E.f2.length ≤ Rows.uptoBulk x.1 := by
  obtain ⟨xs, m, _, rfl, hl, hlen, hf⟩ := DataW.trod_struct Tryz.underlying27 h
  match xs, hlen with
  | [y0, y1, y2, y3, y4], _ =>
    have t2 : DataW.trod enc Tryz.prog W 0 (fun _ => true) held m 22 (((effV E A c).toList.drop 4).take (Tryz.prog.cellsOf 22)) = some y2 := hf 2 _ rfl
    rw [cells22] at t2
    have hb : E.f2.length + 1 ≤ Rows.uptoBulk y2.1 + 1 := by
      rcases open_ints Tryz.underlying22 Tryz.underlying5 cells5' t2 with ⟨hcs, rfl⟩ | ⟨a, l, c', zs, hcs, _, hlc, hm, hz, rfl, hcell, hwz⟩
      · have := (List.cons.inj hcs).1
        simp only [Value.slice.injEq] at this
        have e := this.2.1
        omega
      · have := (List.cons.inj hcs).1
        simp only [Value.slice.injEq] at this
        have e := this.2.1
        have hz' : zs.length = c' := by simpa using hz
        have h1 := bulk_slice (H := H) (lits .u8 (zs.take l)) (lits .u8 (zs.drop l))
        have h2 := bulk_len (H := H) (lits .u8 (zs.take l))
        have h3 : (lits (H := H) .u8 (zs.take l)).length = l := by unfold lits; rw [List.length_map, List.length_take]; omega
        show E.f2.length + 1 ≤ Rows.uptoBulk (.slice _ _) + 1
        omega
    show 1 + E.f2.length ≤ Rows.uptoBulk (.agg _)
    rw [bulk_agg]
    simp only [List.map_cons, List.map_nil, Rows.uptoBulkAll]
    omega
theorem sum_bulk {H : Type} (n : Nat) (D : Nat → DataW H) (F : Nat → S27) (h : ∀ i, i < n → 1 + (F i).f2.length ≤ Rows.uptoBulk (D i)) : greatN ((List.range n).map F) ≤ Rows.uptoBulkAll ((List.range n).map D) := by
  have key : ∀ (l : List Nat), (∀ i ∈ l, i < n) → greatN (l.map F) ≤ Rows.uptoBulkAll (l.map D) := by
    intro l
    induction l with
    | nil => intro _; exact Nat.zero_le _
    | cons i r ih =>
      intro hl
      have h1 := ih (fun j hj => hl j (List.mem_cons_of_mem _ hj))
      have h2 := h i (hl i List.mem_cons_self)
      have e : greatN ((i :: r).map F) = 1 + (F i).f2.length + greatN (r.map F) := rfl
      rw [e]
      simp only [List.map_cons, Rows.uptoBulkAll]
      omega
  exact key _ (fun i hi => List.mem_range.1 hi)
instance : Inhabited S27 := ⟨z27⟩
theorem effs_of_trod {H : Type} {enc : TypeId × Value → H} {W : World} {held : Bool} {a : Option Addr} {len cap : Nat} {d : DataW H} {p : List MemPlace} (h : DataW.Trod enc Tryz.prog W 0 (fun _ => true) held 29 (.slice a len cap) d p) :
    ∃ L : List S27, len = L.length ∧ L.length ≤ cap ∧ Kd.C k27 W a L.length L ∧ (∀ E ∈ L, EffWf E) ∧ greatN L ≤ Rows.uptoBulk d := by
  obtain ⟨fuel, hf⟩ := h
  rcases open_slice Tryz.underlying29 hf with ⟨hcs, hx⟩ | ⟨ad, l, c, m, n, D, Pl, hcs, _, hlc, hm, hmm, hx, hel⟩
  · simp [Value.cells] at hcs
    obtain ⟨rfl, rfl, rfl⟩ := hcs
    exact ⟨[], rfl, Nat.le_refl _, Kd.C_nil _ _, fun _ he => (by cases he), Nat.zero_le _⟩
  · simp [Value.cells] at hcs
    obtain ⟨rfl, rfl, rfl⟩ := hcs
    have hlm : len ≤ m := by rw [hmm]; split <;> omega
    obtain ⟨F, hF⟩ := choose_lt (α := S27) (n := len) (p := fun i E => ∃ A c' cs', W.cells? 0 (ad.add (i * Tryz.prog.cellsOf 27)) (Tryz.prog.cellsOf 27) = some cs' ∧ cs' = (effV E A c').toList ∧ E.f2.length ≤ c' ∧ Kd.C (Kd.int .u8) W A E.f2.length E.f2 ∧ EffWf E ∧ 1 + E.f2.length ≤ Rows.uptoBulk (D i)) (fun i hi => by
      obtain ⟨cs', h1, h2⟩ := hel i (Nat.lt_of_lt_of_le hi hlm)
      obtain ⟨E, A, c', e, h3, h4, h5⟩ := eff_of_cells h2
      rw [e] at h2
      exact ⟨E, A, c', cs', h1, e, h3, h4, h5, eff_bulk h2⟩)
    have hll : ((List.range len).map F).length = len := by simp
    refine ⟨(List.range len).map F, hll.symm, by omega, ?_, fun E he => ?_, ?_⟩
    · rw [hll]
      refine ⟨hll, by unfold maxLen at hm; omega, fun _ => ⟨ad, rfl, fun j q hj => ?_⟩⟩
      have hjl : j < len := by
        have := (List.getElem?_eq_some_iff.1 hj).1
        omega
      have hq : q = F j := by
        rw [List.getElem?_map, List.getElem?_range hjl] at hj
        exact (Option.some.inj hj).symm
      subst hq
      obtain ⟨A, c', cs', h1, rfl, h3, h4, _, _⟩ := hF j hjl
      refine ⟨(effV (F j) A c').toList, rfl, k27_mk W (F j) h3 h4, fun i u hu => ?_⟩
      obtain ⟨_, _, hc⟩ := World.cells?_some h1
      rw [cells27] at hc
      have hi : i < 7 := (List.getElem?_eq_some_iff.1 hu).1
      have := (hc i hi).trans hu
      rw [Go.Deep.add_add] at this
      exact this
    · obtain ⟨i, hi, rfl⟩ := List.mem_map.1 he
      obtain ⟨A, c', cs', _, _, _, _, h5, _⟩ := hF i (List.mem_range.1 hi)
      exact h5
    · have hd : d = .slice ((List.range len).map D) ((List.range (m - len)).map fun j => D (len + j)) := congrArg (·.1) hx
      rw [hd]
      refine Nat.le_trans (sum_bulk len D F (fun i hi => ?_)) (Nat.le_trans (Nat.le_succ _) (bulk_slice _ _))
      obtain ⟨A, c', cs', _, _, _, _, _, h6⟩ := hF i hi
      exact h6
theorem wf_u8e {n : Int} (h : (Lit.int .u8 n).wf = true) : 0 ≤ n ∧ n ≤ 255 := by
  have h1 : (decide (IntKind.u8.min ≤ n) && decide (n ≤ IntKind.u8.max)) = true := h
  have e1 : IntKind.u8.min = 0 := by decide
  have e2 : IntKind.u8.max = 255 := by decide
  rw [e1, e2] at h1
  simpa using h1
theorem wf_u32e {n : Int} (h : (Lit.int .u32 n).wf = true) : 0 ≤ n ∧ n ≤ 4294967295 := by
  have h1 : (decide (IntKind.u32.min ≤ n) && decide (n ≤ IntKind.u32.max)) = true := h
  have e1 : IntKind.u32.min = 0 := by decide
  have e2 : IntKind.u32.max = 4294967295 := by decide
  rw [e1, e2] at h1
  simpa using h1
theorem wf_i64e {n : Int} (h : (Lit.int .i64 n).wf = true) : -9223372036854775808 ≤ n ∧ n ≤ 9223372036854775807 := by
  have h1 : (decide (IntKind.i64.min ≤ n) && decide (n ≤ IntKind.i64.max)) = true := h
  have e1 : IntKind.i64.min = -9223372036854775808 := by decide
  have e2 : IntKind.i64.max = 9223372036854775807 := by decide
  rw [e1, e2] at h1
  simpa using h1
theorem EffWf.wr {E : S27} (h : EffWf E) (hl : E.f2.length ≤ 1000000000) : EffWr E :=
  ⟨(inA_iff _ _ _).2 ⟨(wf_u32e h.fl).1, (wf_u32e h.fl).2, (wf_u8e h.mn).1, (wf_u8e h.mn).2, (wf_u8e h.tm).1, (wf_u8e h.tm).2⟩, fun y hy => wf_u8e (h.d y hy), (wf_i64e h.n).1, (wf_i64e h.n).2, hl⟩
end Go.Proofs.YtbiogabekhegaaaGreatDoor.Hand
