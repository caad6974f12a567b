/- bytes.Repeat of one byte. -/
import Derived.Test.YtoeaidhkohfaoaaDoorHandShelf
import Derived.Test.YtoeaidhkohfaoaaDoorHandCheck
import Derived.Lib.MakeNoZero
import Derived.Laws.CopyRow
import Derived.Laws.CopyOwn
import Derived.Laws.IdiomCopy
import Derived.Deep.RegionLaw
namespace Go.Proofs.YtoeaidhkohfaoaaDoor.Hand
open Go.RowKit Go.Proofs.YtoeaidhkohfaoaaDoorW.PrintWords Go.Proofs.YtoeaidhkohfaoaaDoorW.PrintLast
set_option linter.unusedVariables false
set_option linter.unusedSimpArgs false

def RepOk (A : Option Addr) (c : Nat) (n : Nat) (w : World) : Prop := Calls Tryd.prog 22 #[.slice A 1 c, .int .i64 n] w fun e w' => ∃ A' c', e = .returned (.slice A' n c') ∧ n ≤ c' ∧ Kd.C (Kd.int .u8) w' A' n (List.replicate n 42) ∧ Below w.heap.size w w'

set_option maxHeartbeats 1000000 in
set_option maxRecDepth 100000 in
theorem rep_0 (A : Option Addr) (c : Nat) (w : World) : RepOk A c 0 w := by
  unfold RepOk
  go_enter Tryd.func22, Tryd.ntmps22
  go_wp2_with (fail)
  go_ret
  exact ⟨_, _, rfl, Nat.le_refl _, Kd.C_of_reads (d := (0 : Int)) ⟨rfl, by simp, fun h => absurd h (by simp)⟩, (Below.refl w.heap.size w).alloc (Nat.le_refl _) _⟩

/-- The first cells are stars. -/
def Stars (cur : List Value) (k : Nat) : Prop := ∀ j, j < k → cur[j]? = some (.int .u8 42)
theorem stars_splice {cur : List Value} {b m : Nat} (h : Stars cur b) (hm : b + m ≤ cur.length) : Stars (splice cur b (List.replicate m (.int .u8 42))) (b + m) := by
  intro j hj
  unfold splice
  have hl : (cur.take b).length = b := by rw [List.length_take]; omega
  by_cases h1 : j < b
  · rw [List.getElem?_append_left (by omega), List.getElem?_take, if_pos h1]
    exact h j h1
  · rw [List.getElem?_append_right (by omega), List.getElem?_append_left (by rw [List.length_replicate]; omega), List.getElem?_replicate, if_pos (by omega)]
theorem splice_length (cur : List Value) (b : Nat) (cs : List Value) (hm : b + cs.length ≤ cur.length) : (splice cur b cs).length = cur.length := by
  unfold splice
  simp
  omega

set_option maxHeartbeats 1000000 in
set_option maxRecDepth 100000 in
theorem rep_n (A : Option Addr) (c : Nat) (n : Nat) (h1 : 1 ≤ n) (hn : n ≤ 1024) (w : World) (hC : Kd.C (Kd.int .u8) w A 1 [42]) (hc : 1 ≤ c) : RepOk A c n w := by
  unfold RepOk
  have hr := Kd.reads_of_C (d := (0 : Int)) hC
  obtain ⟨ad, rfl, hcell⟩ := hr.2.2 (by decide)
  have hsrc0 := hcell 0 (by decide)
  have hlt := World.block_lt_of_cell? w _ hsrc0
  obtain ⟨cs, hrunM, hle, _⟩ := Lib.run_makeNoZero (P := Tryd.prog) w #[3] 25 5 Tryd.underlying25 n (by omega)
  have hmk : (callFunc 31 #[.int .i64 n]).run Tryd.prog w = .ok (.value (.slice (some ⟨w.heap.size, 0, none⟩) n cs.size)) (w.drew.drew.alloc (.cells cs 5)) := by
    rw [run_callFunc_extern Tryd.func31 (by kernel_rfl) (by kernel_rfl) (by kernel_rfl) (e := Extern.BytealgMakeNoZero.makeNoZero #[3] #[25]) (by kernel_rfl), hrunM]
    rfl
  have hm : Calls Tryd.prog 30 #[.int .u64 1, .int .u64 n] w fun e w' => e = .returned (.tuple #[.int .u64 0, .int .u64 n]) ∧ w' = w := by
    have := Tryd.bits_Mul 1 n (by omega) (by omega) w
    rw [Nat.one_mul, Nat.div_eq_of_lt (by omega), Nat.mod_eq_of_lt (by omega)] at this
    exact this
  clear hrunM hC hr
  have e0 : ((n : Int) == 0) = false := by simp; omega
  have e1 : decide ((n : Int) < 0) = false := by simp
  have e3 : decide ((8192 : Int) < (n : Int)) = false := by simp; omega
  have ew : IntKind.u64.wrap (n : Int) = n := by unfold IntKind.wrap; simp [IntKind.bits]; omega
  have e4 : decide ((9223372036854775807 : Int) < (n : Int)) = false := by simp; omega
  have z1 : Below w.heap.size w (w.drew.drew.alloc (.cells cs 5)) := below_alloc (below_drew1 (below_drew1 (Below.refl _ _))) _
  have hg1 : (w.drew.drew.alloc (.cells cs 5)).heap[w.heap.size]? = some (.cells cs.toList.toArray 5 (0, 0)) := heap_alloc_new w.drew.drew _
  go_enter Tryd.func22, Tryd.ntmps22
  go_wp2_with (fail)
  refine hm.mono ?_
  rintro e w1 ⟨rfl, rfl⟩
  have hgW : (w1.alloc (.cells cs 5)).drew.drew.heap[w1.heap.size]? = some (.cells cs 5 (0, 0)) := heap_alloc_new w1 _
  have hin : (Tryd.prog.info? 5).map (·.size) = some 1 := by kernel_rfl
  obtain ⟨W, cur1, hcp, zW, gW, hlen, hst⟩ : ∃ (W : World) (cur1 : List Value), (Builtin.copy_ #[25, 25] 3 #[.slice (some ⟨w1.heap.size, 0, none⟩) n n, .slice (some ad) 1 c]).run Tryd.prog (w1.alloc (.cells cs 5)).drew.drew = .ok (.int .i64 1) W ∧
      Below w1.heap.size w1 W ∧ W.heap[w1.heap.size]? = some (.cells cur1.toArray 5 (0, 0)) ∧ n ≤ cur1.length ∧ Stars cur1 1 := by
    have hcp : (Builtin.copy_ #[25, 25] 3 #[.slice (some ⟨w1.heap.size, 0, none⟩) n n, .slice (some ad) 1 c]).run Tryd.prog (w1.alloc (.cells cs 5)).drew.drew = .ok (.int .i64 1) ((w1.alloc (.cells cs 5)).drew.drew.setRow w1.heap.size (cs.toList.take 0 ++ [Value.int .u8 42] ++ cs.toList.drop (0 + 1)).toArray) :=
      run_copy_row (P := Tryd.prog) (w1.alloc (.cells cs 5)).drew.drew 25 25 3 5 w1.heap.size 0 n n ad 1 c cs 5 [Value.int .u8 42] Tryd.underlying25 hin hgW (by show 1 = min 1 n; omega)
        (fun j v hj => by
          have : j = 0 := by
            have := (List.getElem?_eq_some_iff.1 hj).1
            simpa using this
          subst this
          obtain rfl := Option.some.inj hj
          exact cell_stays hsrc0 (below_drew1 (below_drew1 (below_alloc (Below.refl _ _) _)))) (by show 0 + 1 ≤ cs.size; omega) (by simp [Value.oneCell'])
    have zW : Below w1.heap.size w1 ((w1.alloc (.cells cs 5)).drew.drew.setRow w1.heap.size (cs.toList.take 0 ++ [Value.int .u8 42] ++ cs.toList.drop (0 + 1)).toArray) := below_setRow (below_drew1 (below_drew1 (below_alloc (Below.refl _ _) _))) (Nat.le_refl _) _
    have gW := setRow_heap (w1.alloc (.cells cs 5)).drew.drew w1.heap.size cs (cs.toList.take 0 ++ [Value.int .u8 42] ++ cs.toList.drop (0 + 1)).toArray 5 _ hgW
    have hlen : n ≤ (cs.toList.take 0 ++ [Value.int .u8 42] ++ cs.toList.drop (0 + 1)).length := by simp; omega
    have hst : Stars (cs.toList.take 0 ++ [Value.int .u8 42] ++ cs.toList.drop (0 + 1)) 1 := by
      intro j hj
      obtain rfl : j = 0 := by omega
      rfl
    exact ⟨_, _, hcp, zW, gW, hlen, hst⟩
  clear hg1 z1 hcell hsrc0 hgW hm
  go_wp2_with (fail)
  have HB := Aside0.mk zW
  have HG := Aside0.mk gW
  have HL := Aside0.mk hlen
  have HS := Aside0.mk hst
  clear zW gW hlen hst hcp hmk e1 e3 ew e4 hle
  go_loopg [10] n (fun kq v10 w' => ∃ (bp : Nat) (cur : List Value), v10 = .int .i64 bp ∧ Aside0 (1 ≤ bp ∧ bp ≤ n ∧ n - bp ≤ kq) ∧ Aside0 (w'.heap[w1.heap.size]? = some (.cells cur.toArray 5 (0, 0))) ∧ Aside0 (n ≤ cur.length) ∧ Aside0 (Stars cur bp) ∧ Aside0 (Below w1.heap.size w1 w'))
  case atStart => exact ⟨1, cur1, rfl, ⟨by omega⟩, HG, HL, HS, HB⟩
  case round =>
    clear HB HG HL HS
    obtain ⟨bp, cur, rfl, hk, HG, HL, HS, HB⟩ := hrel
    have hk' := hk.out
    by_cases hlt' : bp < n
    · obtain ⟨k, rfl⟩ : ∃ k, gk = k + 1 := ⟨gk - 1, by omega⟩
      have f1 : (bp : Int) < (n : Int) := by omega
      have f2 : decide ((n : Int) < (bp : Int)) = false := by simp; omega
      have f3 : (bp : Int) ≤ (n : Int) := by omega
      have f4 : decide (bp < n) = true := by simp; omega
      have hmin : min (bp : Int) (n : Int) = bp := by omega
      obtain ⟨m, hm, hm1, hm2, hm3⟩ : ∃ m : Nat, m = Nat.min bp (n - bp) ∧ 1 ≤ m ∧ bp + m ≤ n ∧ m ≤ bp := ⟨Nat.min bp (n - bp), rfl, by simp only [Nat.min_def]; split <;> omega, by simp only [Nat.min_def]; split <;> omega, Nat.min_le_left _ _⟩
      have hw : IntKind.i64.wrap ((bp : Int) + ((bp.min (n - bp) : Nat) : Int)) = ((bp + m : Nat) : Int) := by rw [← hm]; unfold IntKind.wrap; simp [IntKind.bits]; omega
      have hfit : bp + (List.replicate m (Value.int .u8 42)).length ≤ cur.length := by rw [List.length_replicate]; have := HL.out; omega
      have hlr : (List.replicate m (Value.int .u8 42)).length = Nat.min bp (n - bp) := by rw [List.length_replicate]; exact hm
      have hS' := Aside0.mk (stars_splice HS.out (show bp + m ≤ cur.length by have := HL.out; omega))
      have hL' := Aside0.mk (show n ≤ (splice cur bp (List.replicate m (Value.int .u8 42))).length by rw [splice_length _ _ _ hfit]; exact HL.out)
      have hk2 := Aside0.mk (show 1 ≤ bp + m ∧ bp + m ≤ n ∧ n - (bp + m) ≤ k by omega)
      have hsrc : ∀ j v, (List.replicate m (Value.int .u8 42))[j]? = some v → wr.cell? ((⟨w1.heap.size, 0, none⟩ : Addr).add j) = some v := by
        intro j v hj
        rw [List.getElem?_replicate] at hj
        split at hj
        · rename_i hjm
          obtain rfl := Option.some.inj hj
          rw [Go.Proofs.YtoeaidhkohfaoaaDoorW.PrintWords.add_plain, blk_cell HG.out]
          have := HS.out j (by omega)
          simpa using this
        · cases hj
      have hv1 : ∀ v ∈ List.replicate m (Value.int .u8 42), v.oneCell' = true := by
        intro v hv
        rw [List.eq_of_mem_replicate hv]
        rfl
      have hsrc' := Aside0.mk hsrc
      clear hsrc hm3
      have hnb : ¬ n = bp := by omega
      have hHG := HG.out
      have hHB := HB.out
      clear hk' hk HS HL hm hm1
      go_wp2_with (fail)
      go_region_law (refine step_copy_splice rfl (.tmp 70) (.tmp 73) 25 25 rfl 5 Tryd.underlying25 hin (some ⟨w1.heap.size, bp, none⟩) (some ⟨w1.heap.size, 0, none⟩) (n - bp) (n - bp) bp n (by simp [Act.eval, Act.put, hnb]) (by simp [Act.eval, Act.put]) w1.heap.size bp cur 5 hHG (List.replicate m (Value.int .u8 42)) hlr (fun _ => ⟨rfl, _, rfl, hsrc'.out⟩) hfit hv1 w1.heap.size w1 (by repeat (first | exact hHB | apply below_drew1 | apply pw_below_drewN)) (Nat.le_refl _) ?_; intro w4 hg4 hb4)
      go_wp2_with (fail)
      go_roundg k
      case measure => omega
      case rel => exact ⟨bp + m, _, rfl, hk2, ⟨hg4⟩, hL', hS', ⟨hb4⟩⟩
    · have f1 : decide ((bp : Int) < (n : Int)) = false := by simp; omega
      obtain rfl : bp = n := by omega
      clear hk'
      go_wp2_with (fail)
      go_ret
      refine ⟨_, _, rfl, Nat.le_refl _, ?_, HB.out⟩
      refine Kd.C_of_reads (d := (0 : Int)) ⟨List.length_replicate, by omega, fun _ => ⟨_, rfl, fun j hj => ?_⟩⟩
      rw [Go.Proofs.YtoeaidhkohfaoaaDoorW.PrintWords.add_plain, blk_cell HG.out]
      have hj' : j < bp := by simpa using hj
      have := HS.out j hj'
      simp [List.getD_eq_getElem?_getD, List.getElem?_replicate, hj', this]

end Go.Proofs.YtoeaidhkohfaoaaDoor.Hand
