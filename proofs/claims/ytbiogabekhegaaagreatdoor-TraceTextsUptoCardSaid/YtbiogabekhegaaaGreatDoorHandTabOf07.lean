/- What the rows of chapter 7 list, as the contracts ask for it. -/
import Derived.Test.YtbiogabekhegaaaGreatDoorHandRead7
import Derived.Test.YtbiogabekhegaaaGreatDoorPWrittenx0
import Derived.Test.YtbiogabekhegaaaGreatDoorHandWritten07
import Derived.WalkKit
import Derived.ProofKit
import Derived.WideShapes
import Derived.ChangeArms
import Derived.Deep.Slices
import Derived.SizedLaws
import Derived.Test.YtbiogabekhegaaaGreatDoorHandLaid
import Derived.Test.YtbiogabekhegaaaGreatDoorRows
import Derived.Shelf.Vars
namespace Go.Proofs.YtbiogabekhegaaaGreatDoor.Hand
open Go.RowKit
set_option linter.unusedVariables false
set_option maxRecDepth 100000

theorem nmType : (Tryz.prog.globals[0]?).map (·.type) = some 98 := by kernel_rfl
theorem nmName : Tryz.prog.globalNamed "whisperer/attrs.names" = some 0 := by kernel_rfl
theorem cellsStr : Tryz.prog.cellsOf 9 = 1 := by kernel_rfl
theorem cells7 : Tryz.prog.cellsOf 98 = 7 := by kernel_rfl
theorem powType : (Tryz.prog.globals[2]?).map (·.type) = some 150 := by kernel_rfl
theorem cells64 : Tryz.prog.cellsOf 100 = 1 := by kernel_rfl
theorem cells20 : Tryz.prog.cellsOf 150 = 20 := by kernel_rfl
theorem tzType : (Tryz.prog.globals[8]?).map (·.type) = some 170 := by kernel_rfl
theorem tzName : Tryz.prog.globalNamed "math/bits.deBruijn64tab" = some 8 := by kernel_rfl
theorem cells8 : Tryz.prog.cellsOf 5 = 1 := by kernel_rfl
theorem cells64t : Tryz.prog.cellsOf 170 = 64 := by kernel_rfl
theorem esName : Tryz.prog.globalNamed "strconv.ErrSyntax" = some 3 := by kernel_rfl
theorem erName : Tryz.prog.globalNamed "strconv.ErrRange" = some 4 := by kernel_rfl
theorem esType : (Tryz.prog.globals[3]?).map (·.type) = some 80 := by kernel_rfl
theorem erType : (Tryz.prog.globals[4]?).map (·.type) = some 80 := by kernel_rfl
def tzL : List Int := [0,1,56,2,57,49,28,3,61,58,42,50,38,29,17,4,62,47,59,36,45,43,51,22,53,39,33,30,24,18,12,5,63,55,48,27,60,41,37,16,46,35,44,21,52,32,23,11,54,26,40,15,34,20,31,10,25,14,19,9,13,8,7,6]

theorem tab_of {W : World} {l : List (String × DataW Unit)} (h : laidMet Tryz.prog l W) (hs : W.ShapedOpen Tryz.prog) (h1 : ("whisperer/attrs.names", Rows.laid_whisperer_attrs_names) ∈ l) (h2 : ("internal/strconv.uint64pow10", Rows.laid_internal_strconv_uint64pow10) ∈ l)
    (h3 : ("strconv.ErrSyntax", Rows.laid_strconv_ErrSyntax) ∈ l) (h4 : ("strconv.ErrRange", Rows.laid_strconv_ErrRange) ∈ l) (h5 : ("math/bits.deBruijn64tab", Rows.laid_math_bits_deBruijn64tab) ∈ l) : TabA W := by
  refine ⟨⟨fun j hj => ?_, ?_, ?_⟩, ?_, ?_, ?_⟩
  · refine strs_of_reads (zs := nameL) nmName nmType Tryz.underlying98 Tryz.underlying9 cellsStr cells7 (reads_of_laid h h1) j (nameL.getD j []) ?_
    rw [List.getD_eq_getElem?_getD]
    have : j < nameL.length := hj
    rw [List.getElem?_eq_getElem this]
    rfl
  · exact tab_of_reads gPow powType Tryz.underlying150 Tryz.underlying100 cells64 cells20 (reads_of_laid h h2)
  · have T : Lib.TabIs Tryz.prog W "math/bits.deBruijn64tab" .u8 tzL := tab_of_reads tzName tzType Tryz.underlying170 Tryz.underlying5 cells8 cells64t (reads_of_laid h h5)
    exact (T.cell tzName 15 (by decide)).trans rfl
  · exact cell_of_shapedOpen_int (zero := #[.int .i64 0]) (t := 3) hs (of_decide_eq_true (by kernel_rfl)) (by kernel_rfl) rfl (by kernel_rfl) (by kernel_rfl) Tryz.underlying3
  · exact iface_of_reads esName esType Tryz.underlying80 (reads_of_laid h h3)
  · exact iface_of_reads erName erType Tryz.underlying80 (reads_of_laid h h4)
theorem tab_of_traceWhole {W : World} (h : laidMetH Tryz.prog Rows.traceWholeRow.laid W) (hs : W.ShapedOpen Tryz.prog) : TabA W := tab_of h hs (by simp [Rows.traceWholeRow]) (by simp [Rows.traceWholeRow]) (by simp [Rows.traceWholeRow]) (by simp [Rows.traceWholeRow]) (by simp [Rows.traceWholeRow])
theorem tab_of_traceLines {W : World} (h : laidMetH Tryz.prog Rows.traceLinesRow.laid W) (hs : W.ShapedOpen Tryz.prog) : TabA W := tab_of h hs (by simp [Rows.traceLinesRow]) (by simp [Rows.traceLinesRow]) (by simp [Rows.traceLinesRow]) (by simp [Rows.traceLinesRow]) (by simp [Rows.traceLinesRow])
theorem tab_of_traceJoins {W : World} (h : laidMetH Tryz.prog Rows.traceJoinsRow.laid W) (hs : W.ShapedOpen Tryz.prog) : TabA W := tab_of h hs (by simp [Rows.traceJoinsRow]) (by simp [Rows.traceJoinsRow]) (by simp [Rows.traceJoinsRow]) (by simp [Rows.traceJoinsRow]) (by simp [Rows.traceJoinsRow])
theorem tab_of_traceBack {W : World} (h : laidMetH Tryz.prog Rows.traceBackRow.laid W) (hs : W.ShapedOpen Tryz.prog) : TabA W := tab_of h hs (by simp [Rows.traceBackRow]) (by simp [Rows.traceBackRow]) (by simp [Rows.traceBackRow]) (by simp [Rows.traceBackRow]) (by simp [Rows.traceBackRow])
theorem tab_of_traceTexts {W : World} (h : laidMetH Tryz.prog Rows.traceTextsRow.laid W) (hs : W.ShapedOpen Tryz.prog) : TabA W := tab_of h hs (by simp [Rows.traceTextsRow]) (by simp [Rows.traceTextsRow]) (by simp [Rows.traceTextsRow]) (by simp [Rows.traceTextsRow]) (by simp [Rows.traceTextsRow])

end Go.Proofs.YtbiogabekhegaaaGreatDoor.Hand
namespace Go.Proofs.YtbiogabekhegaaaGreatDoor.Hand
open Go.RowKit Go.Deep Go.ChangeShapes Go.WideShapes Go.Proofs.YtbiogabekhegaaaGreatDoorW.PrintWords
open Go.Proofs.YtbiogabekhegaaaGreatDoor.PWritten (S27 S25 k27 z27 rd_T27 at_T27 k27_mk)
/-- Its numbers are of their kinds. -/
structure EffWf (E : S27) : Prop where
  k : (Lit.int .i64 E.f0).wf = true
  fl : (Lit.int .u32 E.f1.f0).wf = true
  mn : (Lit.int .u8 E.f1.f1).wf = true
  tm : (Lit.int .u8 E.f1.f2).wf = true
  d : ∀ x ∈ E.f2, (Lit.int .u8 x).wf = true
  n : (Lit.int .i64 E.f3).wf = true
theorem cells3 : Tryz.prog.cellsOf 3 = 1 := by kernel_rfl
theorem cells4 : Tryz.prog.cellsOf 4 = 1 := by kernel_rfl
theorem cells5' : Tryz.prog.cellsOf 5 = 1 := by kernel_rfl
theorem cells22 : Tryz.prog.cellsOf 22 = 1 := by kernel_rfl
theorem cells23 : Tryz.prog.cellsOf 23 = 1 := by kernel_rfl
theorem cells25 : Tryz.prog.cellsOf 25 = 3 := by kernel_rfl
theorem cells27 : Tryz.prog.cellsOf 27 = 7 := by kernel_rfl
theorem list7 {α : Type} {l : List α} (h : l.length = 7) : ∃ a b c d e f g, l = [a, b, c, d, e, f, g] := by
  match l, h with
  | [a, b, c, d, e, f, g], _ => exact ⟨a, b, c, d, e, f, g, rfl⟩
/-- An effect's cells, read. -/
theorem eff_of_cells {H : Type} {enc : TypeId × Value → H} {W : World} {held : Bool} {n : Nat} {cs : List Value} {x : DataW H × List MemPlace} (h : DataW.trod enc Tryz.prog W 0 (fun _ => true) held n 27 cs = some x) :
    ∃ (E : S27) (A : Option Addr) (c : Nat), cs = (effV E A c).toList ∧ E.f2.length ≤ c ∧ Kd.C (Kd.int .u8) W A E.f2.length E.f2 ∧ EffWf E := by
  obtain ⟨xs, m, _, _, hl, hlen, hf⟩ := DataW.trod_struct Tryz.underlying27 h
  obtain ⟨v0, v1, v2, v3, v4, v5, v6, rfl⟩ := list7 (hl.trans cells27)
  match xs, hlen with
  | [y0, y1, y2, y3, y4], _ =>
    have t0 : DataW.trod enc Tryz.prog W 0 (fun _ => true) held m 3 (([v0, v1, v2, v3, v4, v5, v6].drop 0).take (Tryz.prog.cellsOf 3)) = some y0 := hf 0 _ rfl
    have t1 : DataW.trod enc Tryz.prog W 0 (fun _ => true) held m 25 (([v0, v1, v2, v3, v4, v5, v6].drop 1).take (Tryz.prog.cellsOf 25)) = some y1 := hf 1 _ rfl
    have t2 : DataW.trod enc Tryz.prog W 0 (fun _ => true) held m 22 (([v0, v1, v2, v3, v4, v5, v6].drop 4).take (Tryz.prog.cellsOf 22)) = some y2 := hf 2 _ rfl
    have t3 : DataW.trod enc Tryz.prog W 0 (fun _ => true) held m 3 (([v0, v1, v2, v3, v4, v5, v6].drop 5).take (Tryz.prog.cellsOf 3)) = some y3 := hf 3 _ rfl
    have t4 : DataW.trod enc Tryz.prog W 0 (fun _ => true) held m 4 (([v0, v1, v2, v3, v4, v5, v6].drop 6).take (Tryz.prog.cellsOf 4)) = some y4 := hf 4 _ rfl
    rw [cells3] at t0 t3
    rw [cells25] at t1
    rw [cells22] at t2
    rw [cells4] at t4
    obtain ⟨k, e0, _, w0⟩ := DataW.trod_int Tryz.underlying3 t0
    obtain rfl := (List.cons.inj e0).1
    obtain ⟨nn, e3, _, w3⟩ := DataW.trod_int Tryz.underlying3 t3
    obtain rfl := (List.cons.inj e3).1
    obtain ⟨ok, e4, _⟩ := DataW.trod_bool Tryz.underlying4 t4
    obtain rfl := (List.cons.inj e4).1
    obtain ⟨xs1, m1, _, _, hl1, hlen1, hf1⟩ := DataW.trod_struct Tryz.underlying25 t1
    match xs1, hlen1 with
    | [z0, z1, z2], _ =>
      have u0 : DataW.trod enc Tryz.prog W 0 (fun _ => true) held m1 23 (([v1, v2, v3].drop 0).take (Tryz.prog.cellsOf 23)) = some z0 := hf1 0 _ rfl
      have u1 : DataW.trod enc Tryz.prog W 0 (fun _ => true) held m1 5 (([v1, v2, v3].drop 1).take (Tryz.prog.cellsOf 5)) = some z1 := hf1 1 _ rfl
      have u2 : DataW.trod enc Tryz.prog W 0 (fun _ => true) held m1 5 (([v1, v2, v3].drop 2).take (Tryz.prog.cellsOf 5)) = some z2 := hf1 2 _ rfl
      rw [cells23] at u0
      rw [cells5'] at u1 u2
      obtain ⟨fl, g0, _, q0⟩ := DataW.trod_int Tryz.underlying23 u0
      obtain rfl := (List.cons.inj g0).1
      obtain ⟨mn, g1, _, q1⟩ := DataW.trod_int Tryz.underlying5 u1
      obtain rfl := (List.cons.inj g1).1
      obtain ⟨tm, g2, _, q2⟩ := DataW.trod_int Tryz.underlying5 u2
      obtain rfl := (List.cons.inj g2).1
      rcases open_ints Tryz.underlying22 Tryz.underlying5 cells5' t2 with ⟨hcs, _⟩ | ⟨a, l, c, zs, hcs, _, hlc, hm, hz, _, hcell, hwz⟩
      · obtain rfl := (List.cons.inj hcs).1
        exact ⟨⟨k, ⟨fl, mn, tm⟩, [], nn, ok⟩, none, 0, rfl, Nat.le_refl _, Kd.C_nil _ _, w0, q0, q1, q2, fun x hx => (by cases hx), w3⟩
      · obtain rfl := (List.cons.inj hcs).1
        have hz' : zs.length = c := by simpa using hz
        have hlt : (zs.take l).length = l := by rw [List.length_take]; omega
        refine ⟨⟨k, ⟨fl, mn, tm⟩, zs.take l, nn, ok⟩, some a, c, ?_, ?_, ?_, w0, q0, q1, q2, fun x hx => hwz x (List.mem_of_mem_take hx), w3⟩
        · show _ = [_, _, _, _, Value.slice (some a) (zs.take l).length c, _, _]
          rw [hlt]
        · show (zs.take l).length ≤ c
          omega
        · refine Kd.C_of_reads (d := (0 : Int)) ⟨rfl, by show (zs.take l).length ≤ _; unfold maxLen at hm; omega, fun hn => ⟨a, rfl, fun j hj => ?_⟩⟩
          have hj' : j < l := by have : j < (zs.take l).length := hj; omega
          rw [hcell j (by omega)]
          show some (Value.int .u8 (zs.getD j 0)) = some (Value.int .u8 ((zs.take l).getD j 0))
          rw [List.getD_eq_getElem?_getD, List.getD_eq_getElem?_getD, List.getElem?_take, if_pos hj']
set_option maxRecDepth 100000 in
theorem eff_of_trod {H : Type} {enc : TypeId × Value → H} {W : World} {held : Bool} {r : Reach} {b0 : Nat} {v : Value} {d : DataW H} {p : List MemPlace} (hv : Value.okWide Tryz.prog W r b0 27 v) (h : DataW.Trod enc Tryz.prog W 0 (fun _ => true) held 27 v d p) :
    ∃ (E : S27) (A : Option Addr) (c : Nat), v = .agg (effV E A c) ∧ E.f2.length ≤ c ∧ Kd.C (Kd.int .u8) W A E.f2.length E.f2 ∧ EffWf E := by
  obtain ⟨cs, rfl, hsz⟩ := okWide_struct Tryz.underlying27 hv
  obtain ⟨fuel, hf⟩ := h
  have hf' : DataW.trod enc Tryz.prog W 0 (fun _ => true) held fuel 27 cs.toList = some (d, p) := hf
  obtain ⟨E, A, c, e, h1, h2, h3⟩ := eff_of_cells hf'
  refine ⟨E, A, c, ?_, h1, h2, h3⟩
  congr 1
  apply Array.ext'
  exact e
end Go.Proofs.YtbiogabekhegaaaGreatDoor.Hand
