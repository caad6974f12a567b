/- trace.Written; great. -/
import Derived.Test.YtbiogabekhegaaaGreatDoorHandSame07
namespace Go.Proofs.YtbiogabekhegaaaGreatDoor.Hand
open Go.RowKit Go.Proofs.YtbiogabekhegaaaGreatDoorW.PrintWords Go.Proofs.YtbiogabekhegaaaGreatDoorW.PrintLast Go.Proofs.YtbiogabekhegaaaGreatDoorW.PrintMore
open Go.Proofs.YtbiogabekhegaaaGreatDoor.PWritten (S27 S25 k27 z27 rd_T27 at_T27 k27_mk)
attribute [local go_sem] max2_int min2_int max_two min_two
set_option linter.unusedVariables false
set_option linter.unusedSimpArgs false
theorem infoB : (Tryz.prog.info? 5).map (fun i => (i.zero, i.size, i.bytes)) = some (some (.int .u8 0), 1, 1) := by kernel_rfl
abbrev effV (x : S27) (A : Option Addr) (c : Nat) : Array Value := #[.int .i64 x.f0, .int .u32 x.f1.f0, .int .u8 x.f1.f1, .int .u8 x.f1.f2, .slice A x.f2.length c, .int .i64 x.f3, .bool x.f4]
set_option maxHeartbeats 8000000 in
set_option maxRecDepth 100000 in
theorem written_ok (xs : List S27) (A : Option Addr) (c : Nat) (w : World) (hx : Kd.C k27 w A xs.length xs) (hlen : ∀ j, (wrL (xs.take j)).length ≤ 1000000000) (hd : ∀ e ∈ xs, e.f0 = 2 → e.f2.length ≤ 1000000000) :
    Calls Tryz.prog 9 #[.slice A xs.length c] w fun e w' => ∃ v, e = .returned v ∧ Kd.R (Kd.int .u8) 5 w' w.heap.size (fun _ => True) v (wrL xs) ∧ Below w.heap.size w w' := by
  have hxm := Kd.C_max hx
  have HX := Aside0.mk hx
  have HL := Aside0.mk hlen
  have HD := Aside0.mk hd
  clear hx hlen hd
  generalize hxn : xs.length = n at *
  have hnA := Aside0.mk hxn
  clear hxn
  go_enter Tryz.func9, Tryz.ntmps9
  go_wp2_with (fail)
  go_loopw [3, 8] (fun v3 v8 wr => ∃ x : Int, v8 = .int .i64 x ∧ Aside0 (0 ≤ x ∧ x ≤ n) ∧ Aside0 (Kd.R (Kd.int .u8) 5 wr w.heap.size (fun _ => True) v3 (wrL (xs.take x.toNat))) ∧ Aside0 (Below w.heap.size w wr)) (fun _ v8 _ => n - (intOf v8).toNat)
  case atStart => exact ⟨0, rfl, ⟨by omega⟩, ⟨Kd.R_nil _ _ _ _ _⟩, ⟨Below.refl _ _⟩⟩
  case round =>
    obtain ⟨x, rfl, hxr, hR, hB⟩ := hrel
    by_cases hlt : x < n
    · have h0 : 0 ≤ x := hxr.out.1
      obtain ⟨ad, A4, c4, eA, x0, x1, x2, x3, x4, x5, x6, xl, xC⟩ := at_T27 (Kd.C_below HX.out hB.out) x h0 hlt
      subst eA
      have hres := Aside0.mk (show x = ((x.toNat : Nat) : Int) by omega)
      have hsn : Aside0 (wrL (xs.take (x.toNat + 1)) = wrL (xs.take x.toNat) ++ wrE (rd_T27 xs x)) := ⟨by rw [take_rd (by rw [hnA.out]; omega), wrL_snoc, ← hres.out]⟩
      have hl1 := Aside0.mk (HL.out x.toNat)
      have hdl : Aside0 ((rd_T27 xs x).f0 = 2 → (rd_T27 xs x).f2.length ≤ 1000000000) := ⟨HD.out _ (by unfold rd_T27; rw [List.getD_eq_getElem?_getD, List.getElem?_eq_getElem (by rw [hnA.out]; omega)]; exact List.getElem_mem _)⟩
      have hal1 : Below wr.heap.size wr (wr.alloc (.cells (effV (rd_T27 xs x) A4 c4) 27)) := (Below.refl _ wr).alloc (Nat.le_refl _) _
      have hE := Aside0.mk (heap_alloc_new wr (.cells (effV (rd_T27 xs x) A4 c4) 27))
      have hAL := Aside0.mk (hB.out.trans (hal1.mono hB.out.size))
      have xC1 := Aside0.mk (And.intro (Kd.C_below xC hal1) xl)
      have hR1 := Aside0.mk (Kd.R_below hR.out hal1)
      clear xC xl hal1 hR
      generalize wrL (xs.take x.toNat) = acc at *
      generalize rd_T27 xs x = E at *
      go_upto_region 5 with (fail)
      generalize wr.alloc (.cells _ 27) = W at *
      have m0 : W.cell? ⟨wr.heap.size, 0, none⟩ = some (.int .i64 E.f0) := blk_cell hE.out 0
      have m4 : W.cell? ⟨wr.heap.size, 4, none⟩ = some (.slice A4 E.f2.length c4) := blk_cell hE.out 4
      have m5 : W.cell? ⟨wr.heap.size, 5, none⟩ = some (.int .i64 E.f3) := blk_cell hE.out 5
      have hw64 : wrap64 (x + 1) = x + 1 := by unfold wrap64; omega
      clear x0 x1 x2 x3 x4 x5 x6
      by_cases hk : E.f0 = 2
      · have hk' : (E.f0 == 2) = true := beq_iff_eq.mpr hk
        obtain ⟨ji6, hji6⟩ : ∃ j, (if (E.f2.length : Int) < E.f3 then (E.f2.length : Int) else E.f3) = j := ⟨_, rfl⟩
        obtain ⟨ji7, hji7⟩ : ∃ j, (if 0 < ji6 then ji6 else 0) = j := ⟨_, rfl⟩
        have hj : 0 ≤ ji7 ∧ ji7 ≤ E.f2.length ∧ ji7.toNat = (min E.f3 E.f2.length).toNat := by
          split at hji6 <;> split at hji7 <;> omega
        have hwr : wrE E = E.f2.take ji7.toNat := by unfold wrE; rw [if_pos hk, hj.2.2]
        rw [hwr] at hsn
        obtain ⟨i0, hi0, _, hsz, _⟩ := info_parts infoB
        obtain ⟨hcut, hA, hC⟩ := print_take_of (P := Tryz.prog) (Value.int .u8) 0 22 5 .i64 Tryz.underlying22 hi0 hsz A4 c4 E.f2 ji7 hj.1 hj.2.1 xC1.out.2
        have hA13 := Aside0.mk (Kd.C_of_reads (h1 := fun _ => rfl) (hA _ (Kd.reads_of_C xC1.out.1)))
        have htl : Aside0 ((E.f2.take ji7.toNat).length ≤ 1000000000) := ⟨by rw [List.length_take]; have := hdl.out hk; omega⟩
        have hkA := Aside0.mk hk
        have hjA := Aside0.mk hj
        clear hk hwr hi0 hsz hA hC hj
        have htt : (E.f2.take ji7.toNat).length = ji7.toNat := by rw [List.length_take]; have := hjA.out; omega
        rw [htt] at hcut hA13
        have httA := Aside0.mk htt
        clear htt
        go_wp2_with ((with_reducible refine gate_builtin (b := .append) (xs := #[.tmp 15, .tmp 25]) rfl ?_); at_builtin; refine Kd.R_append_rows (Kd.int .u8) (w0 := w) w.heap.size rfl (.tmp 15) (.tmp 25) 22 5 (.int .u8 0) 1 rfl Tryz.underlying22 infoB rfl (by decide) (by omega) u3 acc (E.f2.take ji7.toNat) _ _ _ (fun _ => True) (fun _ => False) rfl rfl hR1.out hA13.out (fun _ _ h => h) (fun _ h => h.elim) (fun _ _ => trivial) hAL.out hAL.out.size (by have := hl1.out; have := htl.out; have := httA.out; omega) ?_; intro v1 w3 ho hb hg hat)
        go_roundw
        case rel =>
          refine ⟨x + 1, by go_num, ⟨by omega⟩, ⟨?_⟩, ⟨hb⟩⟩
          rw [show (x + 1).toNat = x.toNat + 1 by omega, hsn.out]
          exact ho
        case measure => simp [intOf]; omega
      · have hk' : (E.f0 == 2) = false := beq_eq_false_iff_ne.mpr hk
        have hwr : wrE E = [] := by unfold wrE; rw [if_neg hk]
        rw [hwr, List.append_nil] at hsn
        clear hk hwr
        go_wp2_with (fail)
        go_roundw
        case rel =>
          refine ⟨x + 1, by go_num, ⟨by omega⟩, ⟨?_⟩, hAL⟩
          rw [show (x + 1).toNat = x.toNat + 1 by omega, hsn.out]
          exact hR1.out
        case measure => simp [intOf]; omega
    · have hxn : x = n := by have := hxr.out; omega
      subst hxn
      go_wp2_with (fail)
      go_ret
      refine ⟨_, rfl, ?_, hB.out⟩
      have := hR.out
      rw [Int.toNat_natCast, List.take_of_length_le (by rw [hnA.out]; exact Nat.le_refl _)] at this
      exact this
end Go.Proofs.YtbiogabekhegaaaGreatDoor.Hand
