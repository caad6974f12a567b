/- append(x, ys...) where x is what '[]byte(s)' laid: its row bears the mark behind its last place. -/
import Derived.Lib.FrozenHead2
import Derived.Laws.IdiomStrings
import Derived.Test.YtjlfpkgnkgbhiaaWMore
namespace Go.Proofs.Ytjlfpkgnkgbhiaa.Hand
open Go.RowKit Go.Proofs.YtjlfpkgnkgbhiaaW.PrintWords Go.Proofs.YtjlfpkgnkgbhiaaW.PrintLast
set_option linter.unusedVariables false
set_option linter.unusedSimpArgs false

section
variable {P : Program}

/-- Cells are stored ahead of the mark. -/
theorem store_marked (g o : Nat) (t : TypeId) (fz : Nat × Nat) : ∀ (vs : List Value) (i : Nat) (cur : Array Value) (w : World), w.heap[g]? = some (.cells cur t fz) → cur.size ≤ fz.1 → o + i + vs.length ≤ cur.size → (∀ v ∈ vs, v.oneCell' = true) →
    (storeCells ⟨g, o, none⟩ vs i).run P w = .ok () (w.setRow g (cur.toList.take (o + i) ++ vs ++ cur.toList.drop (o + i + vs.length)).toArray)
  | [], i, cur, w, hg, _, _, _ => by
    simp only [storeCells, List.append_nil, List.length_nil, Nat.add_zero, List.take_append_drop, Array.toArray_toList]
    rw [setRow_self w g cur t fz hg]
    rfl
  | v :: rest, i, cur, w, hg, hfz, hl, h1 => by
    have hi : o + i < cur.size := by simp at hl; omega
    have hadd : (⟨g, o, none⟩ : Addr).add i = ⟨g, o + i, none⟩ := by unfold Addr.add; split <;> simp_all
    have hcell : w.cell? ⟨g, o + i, none⟩ = some cur[o + i] := by simp [World.cell?, hg, hi]
    have hfro : w.frozen? ⟨g, o + i, none⟩ = false := by
      obtain ⟨lo, hi'⟩ := fz
      simp only [World.frozen?, hg, Bool.and_eq_false_iff, decide_eq_false_iff_not]
      left
      simp only at hfz
      omega
    have hst : (store ((⟨g, o, none⟩ : Addr).add i) v).run P w = .ok () (w.setRow g (cur.setIfInBounds (o + i) v)) := by
      rw [hadd, run_store P w _ v _ (h1 v (by simp)), hcell]
      simp [hfro, setCell_eq_setRow w g (o + i) cur t fz v hg]
    have ih := store_marked g o t fz rest (i + 1) (cur.setIfInBounds (o + i) v) (w.setRow g (cur.setIfInBounds (o + i) v)) (setRow_heap w g cur _ t _ hg) (by simpa using hfz) (by simp at hl ⊢; omega) (fun x hx => h1 x (by simp [hx]))
    simp only [storeCells, Sem.run_bind, hst, Result.andThen_ok, ih, setRow_setRow]
    congr 3
    have e := list_seg_step cur.toList (o + i) v rest (by simp at hl ⊢; omega)
    simpa [Array.toList_setIfInBounds, Nat.add_assoc] using e

theorem reads_row (w : World) (g : Nat) (cs : Array Value) (e : TypeId) (fr : Nat × Nat) (xs : List Int) (hg : w.heap[g]? = some (.cells cs e fr)) (hx : ∀ j, j < xs.length → cs[j]? = some (.int .u8 (xs.getD j 0))) (hm : xs.length ≤ 9223372036854775807) :
    Kd.C (Kd.int .u8) w (some ⟨g, 0, none⟩) xs.length xs := by
  refine Kd.C_of_reads (d := (0 : Int)) ⟨rfl, hm, fun _ => ⟨_, rfl, fun j hj => ?_⟩⟩
  rw [Go.Proofs.YtjlfpkgnkgbhiaaW.PrintWords.add_plain, cell_of_row w g j cs e fr hg]
  exact hx j hj

theorem append_marked (w : World) (t ty e : TypeId) (i : TypeInfo) (ht : P.underlying t = some (.slice e)) (hi : P.info? e = some i) (hz : i.zero = some (.int .u8 0)) (hsz : i.size = 1) (hby : i.bytes = 1)
    (g cap : Nat) (cur : Array Value) (fz : Nat × Nat) (hg : w.heap[g]? = some (.cells cur e fz)) (hfz : cur.size ≤ fz.1) (hcs : cur.size = cap) (xs : List Int) (hn : xs.length ≤ cap) (hx : ∀ j, j < xs.length → cur[j]? = some (.int .u8 (xs.getD j 0)))
    (A1 : Option Addr) (c1 : Nat) (ys : List Int) (hy : Kd.C (Kd.int .u8) w A1 ys.length ys) (hsm : xs.length + ys.length ≤ 100000) :
    ∃ g' c' w', (Builtin.append_ #[t, t] ty #[.slice (some ⟨g, 0, none⟩) xs.length cap, .slice A1 ys.length c1]).run P w = .ok (.slice (some ⟨g', 0, none⟩) (xs ++ ys).length c') w' ∧ (xs ++ ys).length ≤ c' ∧
      Kd.C (Kd.int .u8) w' (some ⟨g', 0, none⟩) (xs ++ ys).length (xs ++ ys) ∧ w.grownBy w' (some g) := by
  have hl : (xs ++ ys).length = xs.length + ys.length := List.length_append
  have hcl : cur.toList.length = cap := by simpa using hcs
  by_cases h0 : ys.length = 0
  · have hys : ys = [] := List.eq_nil_of_length_eq_zero h0
    subst hys
    refine ⟨g, cap, w, ?_, by simpa using hn, ?_, ⟨rfl, rfl, rfl, Nat.le_refl _, fun _ _ _ => rfl⟩⟩
    · cases A1 with
      | none => simp [Builtin.append_, run_underlying ht, sizeOf, typeInfo, hi, Builtin.lenOf, Builtin.firstCells, hn, storeCells]
      | some a =>
        have hf := run_firstCells_some (P := P) w i.size 0 a 0 c1 [] (by simp) (by simp)
        simp [Builtin.append_, run_underlying ht, sizeOf, typeInfo, hi, Builtin.lenOf, hn, hf, storeCells]
    · rw [List.append_nil]
      exact reads_row w g cur e fz xs hg hx (by omega)
  · have hr := Kd.reads_of_C (d := (0 : Int)) hy
    obtain ⟨a, rfl, hcell⟩ := hr.2.2 (by omega)
    have hnews : ∀ j u, (ys.map (Value.int .u8))[j]? = some u → w.cell? (a.add j) = some u := by
      intro j u hu
      rw [List.getElem?_map] at hu
      obtain ⟨y, hy1, rfl⟩ := Option.map_eq_some_iff.1 hu
      have hj : j < ys.length := (List.getElem?_eq_some_iff.1 hy1).1
      rw [hcell j hj]
      simp [List.getD_eq_getElem?_getD, hy1]
    have h1 : ∀ u ∈ ys.map (Value.int .u8), u.oneCell' = true := by
      intro u hu
      obtain ⟨y, _, rfl⟩ := List.mem_map.1 hu
      rfl
    have hgd : ∀ j, j < (xs ++ ys).length → (xs ++ ys).getD j 0 = if j < xs.length then xs.getD j 0 else ys.getD (j - xs.length) 0 := by
      intro j hj
      by_cases hjx : j < xs.length
      · rw [if_pos hjx]; simp [List.getD_eq_getElem?_getD, List.getElem?_append_left hjx]
      · rw [if_neg hjx]; simp [List.getD_eq_getElem?_getD, List.getElem?_append_right (by omega : xs.length ≤ j)]
    by_cases hroom : xs.length + ys.length ≤ cap
    · have hf := run_firstCells_some (P := P) w i.size ys.length a ys.length c1 (ys.map (Value.int .u8)) (by simp [hsz]) hnews
      have hst := store_marked (P := P) g (xs.length * i.size) e fz (ys.map (Value.int .u8)) 0 cur w hg hfz (by simp [hsz]; omega) h1
      simp only [Nat.add_zero] at hst
      refine ⟨g, cap, w.setRow g (cur.toList.take (xs.length * i.size) ++ ys.map (Value.int .u8) ++ cur.toList.drop (xs.length * i.size + (ys.map (Value.int .u8)).length)).toArray, ?_, by rw [hl]; exact hroom, ?_, ?_⟩
      rotate_left
      · refine reads_row _ g _ e fz (xs ++ ys) (setRow_heap w g cur (cur.toList.take (xs.length * i.size) ++ ys.map (Value.int .u8) ++ cur.toList.drop (xs.length * i.size + (ys.map (Value.int .u8)).length)).toArray e _ hg) ?_ (by omega)
        intro j hj
        rw [hgd j hj]
        simp only [hsz, Nat.mul_one, List.getElem?_toArray]
        by_cases hjx : j < xs.length
        · rw [if_pos hjx, List.append_assoc, List.getElem?_append_left (by simp; omega), List.getElem?_take, if_pos hjx]
          have := hx j hjx
          simpa using this
        · rw [if_neg hjx, List.getElem?_append_left (by simp; omega), List.getElem?_append_right (by simp; omega)]
          have e2 : j - (cur.toList.take xs.length).length = j - xs.length := by simp; omega
          rw [e2, List.getElem?_map, List.getElem?_eq_getElem (by omega)]
          simp [List.getD_eq_getElem?_getD, List.getElem?_eq_getElem (show j - xs.length < ys.length by omega)]
      · exact ⟨rfl, rfl, rfl, by simp, fun k _ hk => setRow_other w g k _ (fun e => hk (by simp [e]))⟩
      · simp [Builtin.append_, run_underlying ht, sizeOf, typeInfo, hi, Builtin.lenOf, hroom, hf, Addr.add_lit, hst, hl]
    · have holds : ∀ j u, (xs.map (Value.int .u8))[j]? = some u → w.cell? ((⟨g, 0, none⟩ : Addr).add j) = some u := by
        intro j u hu
        rw [List.getElem?_map] at hu
        obtain ⟨y, hy1, rfl⟩ := Option.map_eq_some_iff.1 hu
        have hj : j < xs.length := (List.getElem?_eq_some_iff.1 hy1).1
        rw [Go.Proofs.YtjlfpkgnkgbhiaaW.PrintWords.add_plain, cell_of_row w g j cur e fz hg, hx j hj]
        simp [List.getD_eq_getElem?_getD, hy1]
      have hr2 := run_append_grow (P := P) w t ty e i (.int .u8 0) ht hi hz ⟨g, 0, none⟩ xs.length cap (xs.map (Value.int .u8)) (by simp [hsz]) holds a ys.length c1 (ys.map (Value.int .u8)) (by simp [hsz]) hnews (by omega) (by omega) (by rw [hby]; exact growslice_fits (by omega) (by omega))
      refine ⟨w.heap.size, _, w.drew.alloc (.cells ((xs.map (Value.int .u8)).toArray ++ (ys.map (Value.int .u8)).toArray ++ Builtin.zeroCells (Value.int .u8 0).cells (grownCap w (xs.length + ys.length) cap e - (xs.length + ys.length))) e), by rw [hl]; exact hr2, by rw [hl]; exact grownCap_ge w _ cap e, ?_, ⟨rfl, rfl, rfl, by simp, fun k hk _ => heap_alloc_old w.drew _ hk⟩⟩
      refine reads_row _ w.heap.size _ e (0, 0) (xs ++ ys) (heap_alloc_new w.drew _) ?_ (by omega)
      intro j hj
      rw [hgd j hj, Array.getElem?_append_left (by simp; omega)]
      by_cases hjx : j < xs.length
      · rw [if_pos hjx, Array.getElem?_append_left (by simpa using hjx)]
        simp [List.getElem?_map, List.getD_eq_getElem?_getD, List.getElem?_eq_getElem hjx]
      · rw [if_neg hjx, Array.getElem?_append_right (by simp; omega)]
        simp [List.getElem?_map, List.getD_eq_getElem?_getD, List.getElem?_eq_getElem (show j - xs.length < ys.length by omega)]

theorem wpList_append_marked {ops : Array Oper} {rest : List Oper} {o : Oper} {a : Act} {Q : Exit → Act → World → Prop} (w : World) (hgd : o.guard = none) (s x : Operand) (t e : TypeId)
    (ho : o.op = .call { callee := .builtin .append, args := #[s, x], argTypes := #[t, t] })
    (i : TypeInfo) (ht : P.underlying t = some (.slice e)) (hi : P.info? e = some i) (hz : i.zero = some (.int .u8 0)) (hsz : i.size = 1) (hby : i.bytes = 1)
    (g n cap : Nat) (cur : Array Value) (fz : Nat × Nat) (hg : w.heap[g]? = some (.cells cur e fz)) (hfz : cur.size ≤ fz.1) (hcs : cur.size = cap) (xs : List Int) (hnx : n = xs.length) (hn : xs.length ≤ cap) (hx : ∀ j, j < xs.length → cur[j]? = some (.int .u8 (xs.getD j 0)))
    (A1 : Option Addr) (c1 : Nat) (ys : List Int) (hy : Kd.C (Kd.int .u8) w A1 ys.length ys) (hsm : xs.length + ys.length ≤ 100000)
    (hs : a.eval s = .slice (some ⟨g, 0, none⟩) n cap) (hxv : a.eval x = .slice A1 ys.length c1)
    (h : ∀ g' c' w', (xs ++ ys).length ≤ c' → Kd.C (Kd.int .u8) w' (some ⟨g', 0, none⟩) (xs ++ ys).length (xs ++ ys) → w.grownBy w' (some g) → wpList P ops Q rest (a.put o.dst (.slice (some ⟨g', 0, none⟩) (xs ++ ys).length c')) w') :
    wpList P ops Q (o :: rest) a w := by
  refine wpList_plain hgd fun K hK => ?_
  subst hnx
  obtain ⟨g', c', w', hr, h2, h3, h4⟩ := append_marked (P := P) w t o.type e i ht hi hz hsz hby g cap cur fz hg hfz hcs xs hn hx A1 c1 ys hy hsm
  unfold Oper.wp execOp
  simp only [ho, resolve, invoke, builtin, Sem.run_bind, Sem.run_pure, Result.andThen_ok, List.map_toArray, List.map_cons, List.map_nil, hs, hxv, hr]
  exact hK _ _ (h g' c' w' h2 h3 h4)

end

/-- The row of '[]byte(s)'. -/
theorem marked_row (W : World) (s : ByteArray) (e : TypeId) : (bytesRow s (grownCap W s.size 0 e)).size = grownCap W s.size 0 e ∧ (bytesOf s).length ≤ grownCap W s.size 0 e ∧
    ∀ j, j < (bytesOf s).length → (bytesRow s (grownCap W s.size 0 e))[j]? = some (.int .u8 ((bytesOf s).getD j 0)) := by
  have h1 := grownCap_ge W s.size 0 e
  have hl := bytesOf_length s
  have hs : s.data.size = s.size := rfl
  refine ⟨?_, by omega, fun j hj => ?_⟩
  · unfold bytesRow
    simp only [Array.size_append, Array.size_map, Array.size_replicate]
    omega
  · rw [bytesRow_at s _ j (by omega)]
    unfold bytesOf
    rw [List.getD_eq_getElem?_getD, List.getElem?_map, Array.getElem?_toList, Array.getElem?_eq_getElem (by omega)]
    rfl
end Go.Proofs.Ytjlfpkgnkgbhiaa.Hand
