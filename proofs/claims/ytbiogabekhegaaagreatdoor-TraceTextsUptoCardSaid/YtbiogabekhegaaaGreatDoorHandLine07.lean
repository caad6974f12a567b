/- strings.Builder's WriteByte and WriteString at this dump. -/
import Derived.Shelf.Strings.Builder1
import Derived.Shelf.Strings.BuilderK
import Derived.Test.YtbiogabekhegaaaGreatDoorHandShelf
import Derived.Test.YtbiogabekhegaaaGreatDoorHandTrRead
import Derived.Test.YtbiogabekhegaaaGreatDoorHandWritten07
import Derived.Lib.ItoaLen
namespace Go.Proofs.YtbiogabekhegaaaGreatDoor.Hand
open Go.Shelf Go.RowKit
set_option linter.unusedVariables false
def layB_ren : Go.Shelf.Ren := ⟨fun | 167 => 68 | 166 => 36 | 240 => 59 | 276 => 74 | n => n, fun | 31 => 67 | 9 => 9 | 3 => 3 | 4 => 4 | 0 => 0 | 20 => 20 | 72 => 78 | 76 => 81 | 70 => 76 | 37 => 22 | 75 => 80 | 127 => 97 | 164 => 113 | 5 => 5 | 80 => 83 | n => n, fun | n => n⟩
theorem layB167 : Go.Proofs.Lays.n167 Tryz.prog layB_ren := {
  mixed := by kernel_rfl
  f167 := Tryz.func68.trans (congrArg some (by kernel_rfl))
  f240 := Tryz.func59.trans (congrArg some (by kernel_rfl))
  f276 := Tryz.func74.trans (congrArg some (by kernel_rfl))
  t0 := Tryz.underlying0
  a0 := Tryz.isAgg0
  z0 := Tryz.sizeOf0
  v0 := Tryz.zeroValue0
  t4 := Tryz.underlying4
  a4 := Tryz.isAgg4
  z4 := Tryz.sizeOf4
  v4 := Tryz.zeroValue4
  t5 := Tryz.underlying5
  a5 := Tryz.isAgg5
  z5 := Tryz.sizeOf5
  v5 := Tryz.zeroValue5
  t9 := Tryz.underlying9
  a9 := Tryz.isAgg9
  z9 := Tryz.sizeOf9
  v9 := Tryz.zeroValue9
  t20 := Tryz.underlying20
  a20 := Tryz.isAgg20
  z20 := Tryz.sizeOf20
  v20 := Tryz.zeroValue20
  t37 := Tryz.underlying22
  a37 := Tryz.isAgg22
  z37 := Tryz.sizeOf22
  v37 := Tryz.zeroValue22
  t70 := Tryz.underlying76
  a70 := Tryz.isAgg76
  z70 := Tryz.sizeOf76
  v70 := Tryz.zeroValue76
  t72 := Tryz.underlying78
  a72 := Tryz.isAgg78
  z72 := Tryz.sizeOf78
  v72 := Tryz.zeroValue78
  t75 := Tryz.underlying80
  a75 := Tryz.isAgg80
  z75 := Tryz.sizeOf80
  v75 := Tryz.zeroValue80
  t164 := Tryz.underlying113
  a164 := Tryz.isAgg113
  z164 := Tryz.sizeOf113
  v164 := Tryz.zeroValue113 }
theorem layB166 : Go.Proofs.Lays.n166 Tryz.prog layB_ren := {
  mixed := by kernel_rfl
  f166 := Tryz.func36.trans (congrArg some (by kernel_rfl))
  f240 := Tryz.func59.trans (congrArg some (by kernel_rfl))
  f276 := Tryz.func74.trans (congrArg some (by kernel_rfl))
  t0 := Tryz.underlying0
  a0 := Tryz.isAgg0
  z0 := Tryz.sizeOf0
  v0 := Tryz.zeroValue0
  t3 := Tryz.underlying3
  a3 := Tryz.isAgg3
  z3 := Tryz.sizeOf3
  v3 := Tryz.zeroValue3
  t4 := Tryz.underlying4
  a4 := Tryz.isAgg4
  z4 := Tryz.sizeOf4
  v4 := Tryz.zeroValue4
  t9 := Tryz.underlying9
  a9 := Tryz.isAgg9
  z9 := Tryz.sizeOf9
  v9 := Tryz.zeroValue9
  t20 := Tryz.underlying20
  a20 := Tryz.isAgg20
  z20 := Tryz.sizeOf20
  v20 := Tryz.zeroValue20
  t37 := Tryz.underlying22
  a37 := Tryz.isAgg22
  z37 := Tryz.sizeOf22
  v37 := Tryz.zeroValue22
  t70 := Tryz.underlying76
  a70 := Tryz.isAgg76
  z70 := Tryz.sizeOf76
  v70 := Tryz.zeroValue76
  t72 := Tryz.underlying78
  a72 := Tryz.isAgg78
  z72 := Tryz.sizeOf78
  v72 := Tryz.zeroValue78
  t75 := Tryz.underlying80
  a75 := Tryz.isAgg80
  z75 := Tryz.sizeOf80
  v75 := Tryz.zeroValue80
  t164 := Tryz.underlying113
  a164 := Tryz.isAgg113
  z164 := Tryz.sizeOf113
  v164 := Tryz.zeroValue113 }
theorem layB_extra : Builder.Extra Tryz.prog layB_ren := {
  sizeBuilder := by kernel_rfl
  liesBuilder := by kernel_rfl
  t5 := Tryz.underlying5
  a5 := Tryz.isAgg5
  z5 := Tryz.sizeOf5
  v5 := Tryz.zeroValue5
  infoByte := by kernel_rfl
  cellsByte := by kernel_rfl
  sizeByte := by kernel_rfl
  neB5 := by decide }
theorem writeByte_ok (B b : Nat) (bs : List Value) (c : Int) (w : World) (h : Lib.IsBuilder 78 5 B b bs w) (hlen : bs.length + 1 ≤ 140737488355328) (hBw : B ≤ w.heap.size) :
    Calls Tryz.prog 68 #[.pointer (some ⟨b, 0, none⟩), .int .u8 c] w fun e w' => e = .returned .nilIface ∧ (Lib.BuilderAt 78 5 B b (.pointer (some ⟨b, 0, none⟩)) (bs ++ [.int .u8 c]) w' ∧ Below B w w') := Any.Builder_WriteByte layB167 layB_extra B b bs c w h hlen hBw
theorem writeString_ok (B b : Nat) (bs : List Value) (s : ByteArray) (w : World) (h : Lib.IsBuilder 78 5 B b bs w) (hlen : bs.length + s.size ≤ 140737488355328) (hBw : B ≤ w.heap.size) :
    Calls Tryz.prog 36 #[.pointer (some ⟨b, 0, none⟩), .string s] w fun e w' => e = .returned (.tuple #[.int .i64 s.size, .nilIface]) ∧ (Lib.BuilderAt 78 5 B b (.pointer (some ⟨b, 0, none⟩)) (bs ++ Lib.strCells s) w' ∧ Below B w w') := Any.Builder_WriteString layB166 layB_extra B b bs s w h hlen hBw
theorem builderString_ok (B b : Nat) (l : List UInt8) (w : World) (h : Lib.IsBuilder 78 5 B b (Lib.byteCells l) w) (hBw : B ≤ w.heap.size) :
    Calls Tryz.prog 37 #[.pointer (some ⟨b, 0, none⟩)] w fun e w' => e = .returned (.string ⟨l.toArray⟩) ∧ Below B w w' := Any.Builder_String_any Tryz.lays169 Tryz.Builder_Extra_169 B b l w h hBw
end Go.Proofs.YtbiogabekhegaaaGreatDoor.Hand

namespace Go.Proofs.YtbiogabekhegaaaGreatDoor.Hand
open Go.RowKit Go.Proofs.YtbiogabekhegaaaGreatDoorW.PrintWords Go.Proofs.YtbiogabekhegaaaGreatDoorW.PrintLast
open Go.Proofs.YtbiogabekhegaaaGreatDoor.PWritten (S27 S25 k27 z27 rd_T27 at_T27 k27_mk)
set_option linter.unusedVariables false
set_option linter.unusedSimpArgs false
def hexD (d : Nat) : UInt8 := digL.getD d 0
def hexL (l : List Int) : List UInt8 := l.flatMap fun c => [hexD (c / 16).toNat, hexD (c % 16).toNat]
def hexB (l : List Int) : ByteArray := if l = [] then ⟨#[45]⟩ else ⟨(hexL l).toArray⟩
set_option maxRecDepth 100000 in
theorem dig_at (d : Nat) (hd : d < 16) (W : World) : (Instr.index 9 (.string ⟨#[48, 49, 50, 51, 52, 53, 54, 55, 56, 57, 97, 98, 99, 100, 101, 102]⟩) (.int .u8 d)).run Tryz.prog W = .ok (.int .u8 (hexD d).toNat) W := by
  obtain rfl | rfl | rfl | rfl | rfl | rfl | rfl | rfl | rfl | rfl | rfl | rfl | rfl | rfl | rfl | rfl : d = 0 ∨ d = 1 ∨ d = 2 ∨ d = 3 ∨ d = 4 ∨ d = 5 ∨ d = 6 ∨ d = 7 ∨ d = 8 ∨ d = 9 ∨ d = 10 ∨ d = 11 ∨ d = 12 ∨ d = 13 ∨ d = 14 ∨ d = 15 := by omega
  all_goals rfl
theorem and15n : ∀ c : Fin 256, Go.bits .and .u8 ((c.val : Nat) : Int) 15 = ((c.val % 16 : Nat) : Int) := by decide +kernel
theorem hexL_snoc (l : List Int) (c : Int) : hexL (l ++ [c]) = hexL l ++ [hexD (c / 16).toNat] ++ [hexD (c % 16).toNat] := by unfold hexL; simp
theorem hexL_length (l : List Int) : (hexL l).length = 2 * l.length := by
  induction l with
  | nil => rfl
  | cons c r ih =>
    have : hexL (c :: r) = [hexD (c / 16).toNat, hexD (c % 16).toNat] ++ hexL r := rfl
    rw [this, List.length_append, ih]
    simp; omega
theorem take_rdI {l : List Int} {j : Nat} (h : j < l.length) : l.take (j + 1) = l.take j ++ [rd l j] := by
  rw [List.take_succ_eq_append_getElem h]
  congr 2
  unfold rd
  simp [List.getD_eq_getElem?_getD, List.getElem?_eq_getElem h]
set_option maxHeartbeats 4000000 in
set_option maxRecDepth 100000 in
theorem hex_ok (l : List Int) (A : Option Addr) (c : Nat) (w : World) (hC : Kd.C (Kd.int .u8) w A l.length l) (hwf : ∀ x ∈ l, 0 ≤ x ∧ x ≤ 255) (hn : l.length ≤ 1000000000) :
    Calls Tryz.prog 50 #[.slice A l.length c] w fun e w' => e = .returned (.string (hexB l)) ∧ Below w.heap.size w w' := by
  have hCA := Aside0.mk hC
  have hwA := Aside0.mk hwf
  clear hC hwf
  by_cases hl : l = []
  · subst hl
    have z0 : ([] : List Int).length = 0 := rfl
    rw [z0]
    go_enter Tryz.func50, Tryz.ntmps50
    go_wp2_with (fail)
    go_ret
    exact ⟨rfl, Below.refl _ _⟩
  · have hB : hexB l = ⟨(hexL l).toArray⟩ := if_neg hl
    have hl0 : l.length ≠ 0 := fun e => hl (List.eq_nil_of_length_eq_zero e)
    have hBA := Aside0.mk hB
    have hF := Aside0.mk (Lib.fresh_isBuilder 78 5 w)
    have hb0 := Aside0.mk ((Below.refl _ w).alloc (Nat.le_refl _) (.cells #[.pointer none, .slice none 0 0] 78))
    clear hl hB
    generalize hnn : l.length = n at *
    have hnA := Aside0.mk hnn
    clear hnn
    have hneI : ((n : Int) == 0) = false := by simp; omega
    go_enter Tryz.func50, Tryz.ntmps50
    go_wp2_with (fail)
    go_loopw [11] (fun v11 wr => ∃ x : Int, v11 = .int .i64 x ∧ Aside0 (0 ≤ x ∧ x ≤ n) ∧ Aside0 (Lib.IsBuilder 78 5 w.heap.size w.heap.size (Lib.byteCells (hexL (l.take x.toNat))) wr) ∧ Aside0 (Below w.heap.size w wr)) (fun v11 _ => n - (intOf v11).toNat)
    case atStart => exact ⟨0, rfl, ⟨by omega⟩, hF, hb0⟩
    case round =>
      obtain ⟨x, rfl, hxr, hI, hb⟩ := hrel
      by_cases hlt : x < n
      · have h0 : 0 ≤ x := hxr.out.1
        obtain ⟨ad, ea, hcell⟩ := Kd.at_int (Kd.C_below hCA.out hb.out) x h0 hlt
        have hy : 0 ≤ rd l x ∧ rd l x ≤ 255 := hwA.out _ (by unfold rd; rw [List.getD_eq_getElem?_getD, List.getElem?_eq_getElem (by rw [hnA.out]; omega)]; exact List.getElem_mem _)
        have hsn : Aside0 (hexL (l.take (x.toNat + 1)) = hexL (l.take x.toNat) ++ [hexD (rd l x / 16).toNat] ++ [hexD (rd l x % 16).toNat]) := ⟨by rw [take_rdI (by rw [hnA.out]; omega), show ((x.toNat : Nat) : Int) = x by omega, hexL_snoc]⟩
        have hll : Aside0 ((Lib.byteCells (hexL (l.take x.toNat))).length ≤ 2000000000) := ⟨by rw [Lib.byteCells_length, hexL_length, List.length_take]; have := hnA.out; omega⟩
        subst ea
        generalize rd l x = y at *
        obtain ⟨m, rfl⟩ := Int.eq_ofNat_of_zero_le hy.1
        have hm : m < 256 := by omega
        have hdiv : ((m : Nat) : Int) / 16 = ((m / 16 : Nat) : Int) := by omega
        have hmod : ((m : Nat) : Int) % 16 = ((m % 16 : Nat) : Int) := by omega
        have hand : Go.bits .and .u8 ((m : Nat) : Int) 15 = ((m % 16 : Nat) : Int) := and15n ⟨m, hm⟩
        have hd1 := dig_at (m / 16) (by omega)
        have hd2 := dig_at (m % 16) (by omega)
        rw [hdiv, hmod, Int.toNat_natCast, Int.toNat_natCast] at hsn
        generalize hexL (l.take x.toNat) = acc at *
        generalize hexD (m / 16) = D1 at *
        generalize hexD (m % 16) = D2 at *
        have hdA := Aside0.mk (And.intro hd1 hd2)
        have hb16 : m / 16 < 16 := by omega
        have hb17 : m % 16 < 16 := by omega
        clear hmod
        generalize hM1 : m / 16 = M1 at *
        generalize hM2 : m % 16 = M2 at *
        clear hM1 hM2 hdA
        go_wp2_with (fail)
        refine (writeByte_ok w.heap.size w.heap.size _ _ _ hI.out (by have := hll.out; omega) hb.out.size).mono ?_
        rintro e w5 ⟨rfl, hI5, hb5⟩
        have hb55 := Aside0.mk (hb.out.trans hb5)
        have hI5A := Aside0.mk hI5
        have hl5 : Aside0 ((Lib.byteCells acc ++ [Value.int .u8 D1.toNat]).length ≤ 2000000001) := ⟨by rw [List.length_append]; have := hll.out; simp only [List.length_cons, List.length_nil]; omega⟩
        clear hI5 hb5 hcell
        go_wp2_with (fail)
        refine (writeByte_ok w.heap.size w.heap.size _ _ _ (.inr hI5A.out) (by have := hl5.out; omega) hb55.out.size).mono ?_
        rintro e w6 ⟨rfl, hI6, hb6⟩
        have hI6A := Aside0.mk hI6
        have hb66 := Aside0.mk (hb55.out.trans hb6)
        have hw64 : wrap64 (x + 1) = x + 1 := by unfold wrap64; omega
        clear hI6 hb6
        go_wp2_with (fail)
        go_roundw
        case rel =>
          refine ⟨x + 1, by go_num, ⟨by omega⟩, ⟨?_⟩, hb66⟩
          rw [show (x + 1).toNat = x.toNat + 1 by omega, hsn.out]
          have : Lib.byteCells (acc ++ [D1] ++ [D2]) = Lib.byteCells acc ++ [Value.int .u8 D1.toNat] ++ [Value.int .u8 D2.toNat] := by simp [Lib.byteCells]
          rw [this]
          exact .inr hI6A.out
        case measure => simp [intOf]; omega
      · have hxn : x = n := by have := hxr.out; omega
        subst hxn
        have hI2 := hI.out
        rw [Int.toNat_natCast, List.take_of_length_le (by rw [hnA.out]; exact Nat.le_refl _)] at hI2
        have hIA := Aside0.mk hI2
        clear hI2 hI
        go_wp2_with (fail)
        refine (builderString_ok w.heap.size w.heap.size (hexL l) _ hIA.out hb.out.size).mono ?_
        rintro e w5 ⟨rfl, hb5⟩
        go_wp2_with (fail)
        go_ret
        exact ⟨by rw [hBA.out]; rfl, hb.out.trans hb5⟩
end Go.Proofs.YtbiogabekhegaaaGreatDoor.Hand

namespace Go.Proofs.YtbiogabekhegaaaGreatDoor.Hand
open Go.RowKit Go.Proofs.YtbiogabekhegaaaGreatDoorW.PrintWords Go.Proofs.YtbiogabekhegaaaGreatDoorW.PrintLast
open Go.Proofs.YtbiogabekhegaaaGreatDoor.PWritten (S27 S25 k27 z27 rd_T27 at_T27 k27_mk)
set_option linter.unusedVariables false
set_option linter.unusedSimpArgs false
theorem effV_cells {W : World} {g : Nat} {x : S27} {A : Option Addr} {c : Nat} (H : W.heap[g]? = some (.cells (effV x A c) 27 (0, 0))) :
    W.cell? ⟨g, 0, none⟩ = some (.int .i64 x.f0) ∧ W.cell? ⟨g, 1, none⟩ = some (.int .u32 x.f1.f0) ∧ W.cell? ⟨g, 2, none⟩ = some (.int .u8 x.f1.f1) ∧ W.cell? ⟨g, 3, none⟩ = some (.int .u8 x.f1.f2) ∧ W.cell? ⟨g, 4, none⟩ = some (.slice A x.f2.length c) ∧ W.cell? ⟨g, 5, none⟩ = some (.int .i64 x.f3) ∧ W.cell? ⟨g, 6, none⟩ = some (.bool x.f4) :=
  ⟨blk_cell H 0, blk_cell H 1, blk_cell H 2, blk_cell H 3, blk_cell H 4, blk_cell H 5, blk_cell H 6⟩
def itoaB (n : Int) : ByteArray := ⟨(Lib.itoa n).toArray⟩
set_option maxHeartbeats 2000000 in
set_option maxRecDepth 100000 in
theorem wAttrs_ok (x : S27) (A : Option Addr) (c : Nat) (w : World) (HT : TabA w) (hi : inA x.f1.f0 x.f1.f1 x.f1.f2 = true) :
    Calls Tryz.prog 40 #[.agg (effV x A c)] w fun e w' => e = .returned (.string (textI x.f1.f0 x.f1.f1 x.f1.f2)) ∧ Below w.heap.size w w' := by
  have hb0 : Below w.heap.size w (w.alloc (.cells (effV x A c) 27)) := (Below.refl _ w).alloc (Nat.le_refl _) _
  have HX := attrs_Text.calls x.f1.f0 x.f1.f1 x.f1.f2 _ _ (HT.below hb0) (if_pos hi)
  obtain ⟨m0, m1, m2, m3, m4, m5, m6⟩ := effV_cells (heap_alloc_new w (.cells (effV x A c) 27))
  generalize textI x.f1.f0 x.f1.f1 x.f1.f2 = T at *
  go_enter Tryz.func40, Tryz.ntmps40
  go_wp2_with (fail)
  refine HX.mono ?_
  rintro e w5 ⟨rfl, hb5⟩
  go_wp2_with (fail)
  go_ret
  exact ⟨rfl, hb0.trans (hb5.mono hb0.size)⟩
set_option maxHeartbeats 2000000 in
set_option maxRecDepth 100000 in
theorem wCount_ok (x : S27) (A : Option Addr) (c : Nat) (w : World) (HT : TabA w) (h0 : -9223372036854775808 ≤ x.f3) (h1 : x.f3 ≤ 9223372036854775807) :
    Calls Tryz.prog 45 #[.agg (effV x A c)] w fun e w' => e = .returned (.string (itoaB x.f3)) ∧ Below w.heap.size w w' := by
  have hb0 : Below w.heap.size w (w.alloc (.cells (effV x A c) 27)) := (Below.refl _ w).alloc (Nat.le_refl _) _
  have HX := itoa_any x.f3 h0 h1 _ (HT.below hb0)
  obtain ⟨m0, m1, m2, m3, m4, m5, m6⟩ := effV_cells (heap_alloc_new w (.cells (effV x A c) 27))
  unfold itoaB
  generalize (⟨(Lib.itoa x.f3).toArray⟩ : ByteArray) = T at *
  go_enter Tryz.func45, Tryz.ntmps45
  go_wp2_with (fail)
  refine HX.mono ?_
  rintro e w5 ⟨rfl, hb5⟩
  go_wp2_with (fail)
  go_ret
  exact ⟨rfl, hb0.trans (hb5.mono hb0.size)⟩
theorem itoa_len (n : Int) (h0 : -9223372036854775808 ≤ n) (h1 : n ≤ 9223372036854775807) : (itoaB n).size ≤ 100 := by
  unfold itoaB
  rw [Lib.size_eq]
  show (Lib.itoa n).length ≤ 100
  have := Lib.itoa_length_le n h0 h1
  omega
theorem hexB_size (l : List Int) (h : l.length ≤ 1000000000) : (hexB l).size ≤ 2000000001 := by
  unfold hexB
  split
  · decide
  · rw [Lib.size_eq]
    show (hexL l).length ≤ _
    rw [hexL_length]; omega
set_option maxHeartbeats 4000000 in
set_option maxRecDepth 100000 in
theorem wBytes_ok (x : S27) (A : Option Addr) (c q : Nat) (w : World) (HT : TabA w) (hC : Kd.C (Kd.int .u8) w A x.f2.length x.f2) (hwf : ∀ y ∈ x.f2, 0 ≤ y ∧ y ≤ 255) (hn : x.f2.length ≤ 1000000000) (h0 : -9223372036854775808 ≤ x.f3) (h1 : x.f3 ≤ 9223372036854775807)
    (hq : w.heap[q]? = some (.cells #[.func (.func 45) #[] #[]] 55 (0, 0))) :
    Calls Tryz.prog 49 #[.agg (effV x A c), .pointer (some ⟨q, 0, none⟩)] w fun e w' => e = .returned (.string (hexB x.f2 ++ ⟨#[32]⟩ ++ itoaB x.f3)) ∧ Below w.heap.size w w' := by
  have hb0 : Below w.heap.size w (w.alloc (.cells (effV x A c) 27)) := (Below.refl _ w).alloc (Nat.le_refl _) _
  have hE := Aside0.mk (heap_alloc_new w (.cells (effV x A c) 27))
  have hQ := Aside0.mk ((hb0.block q (blk_lt hq)).trans hq)
  have HH := fun W (hb : Below w.heap.size w W) => hex_ok x.f2 A c W (Kd.C_below hC hb) hwf hn
  have HN := fun W (hb : Below w.heap.size w W) => wCount_ok x A c W (HT.below hb) h0 h1
  have s1 := hexB_size x.f2 hn
  have s2 := itoa_len x.f3 h0 h1
  have hbA := Aside0.mk hb0
  clear hC hwf hn h0 h1 hq hb0
  generalize hexB x.f2 = H at *
  generalize itoaB x.f3 = N at *
  go_enter Tryz.func49, Tryz.ntmps49
  go_upto_region 1 with (fail)
  generalize w.alloc (.cells (effV x A c) 27) = W at *
  obtain ⟨m0, m1, m2, m3, m4, m5, m6⟩ := effV_cells hE.out
  have q0 : W.cell? ⟨q, 0, none⟩ = some (.func (.func 45) #[] #[]) := blk_cell hQ.out 0
  have c1 : H.size + 1 ≤ 9223372036854775807 := by omega
  have c2 : H.size + 1 + N.size ≤ 9223372036854775807 := by omega
  go_region_with (first | (go_at_call 50; refine (HH _ (below_drew1 hbA.out)).mono ?_; rintro e w5 ⟨rfl, hb5⟩; have hE5 := (hb5.block _ (blk_lt hE.out)).trans hE.out; obtain ⟨n0, n1, n2, n3, n4, n5, n6⟩ := effV_cells hE5; have q5 : w5.cell? ⟨q, 0, none⟩ = some (.func (.func 45) #[] #[]) := blk_cell ((hb5.block _ (blk_lt hQ.out)).trans hQ.out) 0; have hb55 := Aside0.mk ((below_drew1 hbA.out).trans (hb5.mono (below_drew1 hbA.out).size))) | (go_at_call 45; refine (HN _ hb55.out).mono ?_; rintro e w6 ⟨rfl, hb6⟩))
  all_goals
    go_wp2_with (fail)
    go_ret
    exact ⟨rfl, hb55.out.trans (hb6.mono hb55.out.size)⟩
end Go.Proofs.YtbiogabekhegaaaGreatDoor.Hand
