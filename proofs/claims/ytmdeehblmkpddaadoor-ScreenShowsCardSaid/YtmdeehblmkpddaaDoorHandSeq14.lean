/- The document's own screen: what it holds in memory. -/
import Derived.Test.YtmdeehblmkpddaaDoorHandTabOf14
import Derived.Test.YtmdeehblmkpddaaDoorPNumberx1
import Derived.Test.YtmdeehblmkpddaaDoorHandPlain
namespace Go.Proofs.YtmdeehblmkpddaaDoor.Hand
open Go.RowKit Go.Proofs.YtmdeehblmkpddaaDoorW.PrintWords Go.Proofs.YtmdeehblmkpddaaDoorW.PrintLast
set_option linter.unusedVariables false
set_option linter.unusedSimpArgs false
def seeCells (s : SM) (vr : Value) : Array Value := #[vr, .int .i64 s.row, .int .i64 s.col, .int .i64 s.bells, .bool s.pastes, .int .i64 s.odd]
/-- What is seen, in block g; its rows are never written in place. -/
structure SeeX (w0 w : World) (g : Nat) (s : SM) (vr : Value) (vs : List Value) : Prop where
  me : w.heap[g]? = some (.cells (seeCells s vr) 69 (0, 0))
  rs : IRow w vr vs
  n : vs.length = s.rows.length
  inn : ∀ (i : Nat) (v : Value), vs[i]? = some v → IRow w v ((s.rows.getD i []).map (.int .i64))
  r1 : ∀ b, vr.ownBlock = some b → b ≠ g ∧ w0.heap.size ≤ b
  r2 : ∀ (i : Nat) (v : Value), vs[i]? = some v → ∀ b, v.ownBlock = some b → b ≠ g ∧ vr.ownBlock ≠ some b
  g0 : w0.heap.size ≤ g
  b : Below w0.heap.size w0 w
theorem SeeX.glt {w0 w : World} {g : Nat} {s : SM} {vr : Value} {vs : List Value} (h : SeeX w0 w g s vr vs) : g < w.heap.size := by
  have := (Array.getElem?_eq_some_iff.mp h.me).1
  exact this
theorem SeeX.below {w0 w W : World} {g : Nat} {s : SM} {vr : Value} {vs : List Value} (h : SeeX w0 w g s vr vs) (hb : Below w.heap.size w W) : SeeX w0 W g s vr vs :=
  ⟨(hb.block g h.glt).trans h.me, h.rs.below hb, h.n, fun i v hv => (h.inn i v hv).below hb, h.r1, h.r2, h.g0, h.b.trans (hb.mono h.b.size)⟩
/-- Another block is written. -/
theorem SeeX.other {w0 w W : World} {g : Nat} {s : SM} {vr : Value} {vs : List Value} (h : SeeX w0 w g s vr vs) {r : Option Nat} (hg : w.grownBy W r)
    (ho : ∀ b, r = some b → b ≠ g ∧ vr.ownBlock ≠ some b ∧ (∀ (i : Nat) (u : Value), vs[i]? = some u → u.ownBlock ≠ some b) ∧ w0.heap.size ≤ b) : SeeX w0 W g s vr vs := by
  have hm : Mod (fun k => r = some k) w W := Mod.ofGrown hg (fun k e => e)
  have hG : Gr w0 w (fun k => r = some k) := ⟨h.b, fun k e => (ho k e).2.2.2⟩
  exact ⟨(hm.block g h.glt (fun e => (ho g e).1 rfl)).trans h.me, h.rs.kept (fun b e => hm.block b (h.rs.lt b e) (fun e2 => (ho b e2).2.1 e)) hm.size, h.n,
    fun i v hv => (h.inn i v hv).kept (fun b e => hm.block b ((h.inn i v hv).lt b e) (fun e2 => (ho b e2).2.2.1 i v hv e)) hm.size, h.r1, h.r2, h.g0, (hG.mod hm).b⟩
theorem grown_set (w : World) (a : Addr) (v : Value) : w.grownBy (w.setCell a v) (some a.block) := by
  have hk : Below 0 w (w.setCell a v) := (Below.refl 0 w).setCell (Nat.zero_le _) v
  exact ⟨hk.os, hk.tape, hk.output, hk.size, fun k _ hf => Below.heap_setCell w _ v k (fun e => hf (by rw [show k = a.block from e]))⟩
/-- With a row apart. -/
structure SeeL (w0 w : World) (g : Nat) (s : SM) (vr : Value) (vs : List Value) (v : Value) (l : List Int) : Prop where
  x : SeeX w0 w g s vr vs
  vr_ : IRow w v (l.map (.int .i64))
  o : ∀ b, v.ownBlock = some b → b ≠ g ∧ vr.ownBlock ≠ some b ∧ (∀ (i : Nat) (u : Value), vs[i]? = some u → u.ownBlock ≠ some b) ∧ w0.heap.size ≤ b
theorem SeeX.newBlock {w0 w : World} {g : Nat} {s : SM} {vr : Value} {vs : List Value} (h : SeeX w0 w g s vr vs) : w.heap.size ≠ g ∧ vr.ownBlock ≠ some w.heap.size ∧ (∀ (i : Nat) (u : Value), vs[i]? = some u → u.ownBlock ≠ some w.heap.size) ∧ w0.heap.size ≤ w.heap.size :=
  ⟨fun e => by have := h.glt; omega, fun e => by have := h.rs.lt _ e; omega, fun i u hu e => by have := (h.inn i u hu).lt _ e; omega, h.b.size⟩
theorem SeeX.start {w0 w : World} {g : Nat} {s : SM} {vr : Value} {vs : List Value} (h : SeeX w0 w g s vr vs) (t : TypeId) : SeeL w0 (w.alloc (.cells #[] t)) g s vr vs (.slice (some ⟨w.heap.size, 0, none⟩) 0 0) [] := by
  refine ⟨h.below ((Below.refl _ w).alloc (Nat.le_refl _) _), .inr ⟨w.heap.size, 0, 0, rfl, Nat.le_refl _, Nat.zero_le _, by simp, fun j u hj => (by cases hj), fun j hj => absurd hj (Nat.not_lt_zero _)⟩, fun b e => ?_⟩
  obtain rfl := Option.some.inj e
  exact h.newBlock
theorem SeeL.below {w0 w W : World} {g : Nat} {s : SM} {vr : Value} {vs : List Value} {v : Value} {l : List Int} (h : SeeL w0 w g s vr vs v l) (hb : Below w.heap.size w W) : SeeL w0 W g s vr vs v l :=
  ⟨h.x.below hb, h.vr_.below hb, h.o⟩
theorem SeeL.grown {w0 w W : World} {g : Nat} {s : SM} {vr : Value} {vs : List Value} {v v' : Value} {l l' : List Int} (h : SeeL w0 w g s vr vs v l) (hown : IRow W v' (l'.map (.int .i64))) (hg : w.grownBy W v.ownBlock) (hbl : v'.ownBlock = v.ownBlock ∨ v'.ownBlock = some w.heap.size) : SeeL w0 W g s vr vs v' l' := by
  refine ⟨h.x.other hg h.o, hown, fun b e => ?_⟩
  rcases hbl with e2 | e2
  · rw [e2] at e; exact h.o b e
  · rw [e2] at e
    obtain rfl := Option.some.inj e
    exact h.x.newBlock
theorem SeeL.put {w0 w : World} {g : Nat} {s : SM} {vr : Value} {vs : List Value} {b off cap : Nat} {l : List Int} (h : SeeL w0 w g s vr vs (.slice (some ⟨b, off, none⟩) l.length cap) l) (j : Nat) (hj : j < l.length) (c : Int) :
    SeeL w0 (w.setCell ⟨b, off + j, none⟩ (.int .i64 c)) g s vr vs (.slice (some ⟨b, off, none⟩) l.length cap) (l.set j c) := by
  have h1 := h.vr_
  have := IRow.put (w := w) (b := b) (off := off) (cap := cap) (xs := l.map (.int .i64)) (by rw [List.length_map]; exact h1) j (by rw [List.length_map]; exact hj) (.int .i64 c)
  rw [List.length_map] at this
  refine ⟨h.x.other (grown_set w ⟨b, off + j, none⟩ (.int .i64 c)) h.o, ?_, h.o⟩
  rw [List.map_set]
  exact this
/-- A row is laid into the rows. -/
theorem SeeX.close {w0 w : World} {g : Nat} {s : SM} {br or_ cr : Nat} {vs : List Value} (h : SeeX w0 w g s (.slice (some ⟨br, or_, none⟩) vs.length cr) vs) (i : Nat) (hi : i < vs.length) {v : Value} {l : List Int} (hv : IRow w v (l.map (.int .i64)))
    (ho : ∀ b, v.ownBlock = some b → b ≠ g ∧ b ≠ br) : SeeX w0 (w.setCell ⟨br, or_ + i, none⟩ v) g { s with rows := s.rows.set i l } (.slice (some ⟨br, or_, none⟩) vs.length cr) (vs.set i v) := by
  have h1 := h.r1 br rfl
  have hne : ∀ b, b ≠ br → (w.setCell ⟨br, or_ + i, none⟩ v).heap[b]? = w.heap[b]? := fun b hb => Below.heap_setCell w _ v b hb
  have hsz : w.heap.size ≤ (w.setCell ⟨br, or_ + i, none⟩ v).heap.size := by simp
  have hgd : ∀ j, j ≠ i → (s.rows.set i l).getD j [] = s.rows.getD j [] := fun j hj => by
    rw [List.getD_eq_getElem?_getD, List.getD_eq_getElem?_getD, List.getElem?_set, if_neg (fun e => hj e.symm)]
  have hgi : (s.rows.set i l).getD i [] = l := by
    rw [List.getD_eq_getElem?_getD, List.getElem?_set, if_pos rfl, if_pos (by rw [← h.n]; exact hi)]
    rfl
  have hbr : ∀ (j : Nat) (u : Value), vs[j]? = some u → ∀ b, u.ownBlock = some b → b ≠ br := fun j u hu b e e2 => (h.r2 j u hu b e).2 (by rw [e2]; rfl)
  refine ⟨(hne g (fun e => h1.1 e.symm)).trans h.me, ?_, by rw [List.length_set, List.length_set]; exact h.n, fun j u hu => ?_, h.r1, fun j u hu b e => ?_, h.g0, ?_⟩
  · have := IRow.put h.rs i hi v
    rw [show vs.length = (vs.set i v).length from List.length_set.symm]
    rw [List.length_set]
    exact this
  · by_cases hj : j = i
    · subst hj
      rw [List.getElem?_set, if_pos rfl, if_pos hi] at hu
      obtain rfl := Option.some.inj hu
      rw [hgi]
      exact hv.kept (fun b e => hne b (ho b e).2) hsz
    · rw [List.getElem?_set, if_neg (fun e => hj e.symm)] at hu
      rw [hgd j hj]
      exact (h.inn j u hu).kept (fun b e => hne b (hbr j u hu b e)) hsz
  · by_cases hj : j = i
    · subst hj
      rw [List.getElem?_set, if_pos rfl, if_pos hi] at hu
      obtain rfl := Option.some.inj hu
      exact ⟨(ho b e).1, fun e2 => (ho b e).2 (Option.some.inj e2).symm⟩
    · rw [List.getElem?_set, if_neg (fun e => hj e.symm)] at hu
      exact h.r2 j u hu b e
  · have hG : Gr w0 w (fun k => (some br : Option Nat) = some k) := ⟨h.b, fun k e => by obtain rfl := Option.some.inj e; exact h1.2⟩
    exact (hG.mod (Mod.ofGrown (grown_set w ⟨br, or_ + i, none⟩ v) (fun k e => e))).b
/-- A field is written. -/
theorem SeeX.field {w0 w : World} {g : Nat} {s s' : SM} {vr : Value} {vs : List Value} (h : SeeX w0 w g s vr vs) (k : Nat) (u : Value) (hc : (seeCells s vr).setIfInBounds k u = seeCells s' vr) (hr : s'.rows = s.rows) : SeeX w0 (w.setCell ⟨g, k, none⟩ u) g s' vr vs := by
  have hne : ∀ b, b ≠ g → (w.setCell ⟨g, k, none⟩ u).heap[b]? = w.heap[b]? := fun b hb => Below.heap_setCell w _ u b hb
  have hsz : w.heap.size ≤ (w.setCell ⟨g, k, none⟩ u).heap.size := by simp
  refine ⟨blk_put h.me k u hc, h.rs.kept (fun b e => hne b (h.r1 b e).1) hsz, by rw [hr]; exact h.n, fun j v hv => ?_, h.r1, h.r2, h.g0, ?_⟩
  · rw [hr]
    exact (h.inn j v hv).kept (fun b e => hne b (h.r2 j v hv b e).1) hsz
  · have hG : Gr w0 w (fun k => (some g : Option Nat) = some k) := ⟨h.b, fun k e => by obtain rfl := Option.some.inj e; exact h.g0⟩
    exact (hG.mod (Mod.ofGrown (grown_set w ⟨g, k, none⟩ u) (fun k e => e))).b
/-- A new row. -/
theorem SeeX.line {w0 w W : World} {g : Nat} {s : SM} {vr vr' : Value} {vs : List Value} (h : SeeX w0 w g s vr vs) (hg : w.grownBy W vr.ownBlock) (hv : IRow W vr' (vs ++ [.slice none 0 0])) (hbl : vr'.ownBlock = vr.ownBlock ∨ vr'.ownBlock = some w.heap.size) :
    SeeX w0 (W.setCell ⟨g, 0, none⟩ vr') g { s with rows := s.rows ++ [[]] } vr' (vs ++ [.slice none 0 0]) := by
  have hm : Mod (fun k => vr.ownBlock = some k) w W := Mod.ofGrown hg (fun k e => e)
  have hgW : W.heap[g]? = w.heap[g]? := hm.block g h.glt (fun e => (h.r1 g e).1 rfl)
  have hne : ∀ b, b ≠ g → (W.setCell ⟨g, 0, none⟩ vr').heap[b]? = W.heap[b]? := fun b hb => Below.heap_setCell W _ vr' b hb
  have hsz : W.heap.size ≤ (W.setCell ⟨g, 0, none⟩ vr').heap.size := by simp
  have hr1 : ∀ b, vr'.ownBlock = some b → b ≠ g ∧ w0.heap.size ≤ b := fun b e => by
    rcases hbl with e2 | e2
    · rw [e2] at e; exact h.r1 b e
    · rw [e2] at e
      obtain rfl := Option.some.inj e
      exact ⟨h.newBlock.1, h.b.size⟩
  refine ⟨blk_put (hgW.trans h.me) 0 vr' rfl, hv.kept (fun b e => hne b (hr1 b e).1) hsz, by rw [List.length_append, List.length_append, h.n]; rfl, fun j v hj => ?_, hr1, fun j v hj b e => ?_, h.g0, ?_⟩
  · rw [List.getElem?_append] at hj
    split at hj
    · rename_i hlt
      have e1 : (s.rows ++ [[]]).getD j [] = s.rows.getD j [] := by
        rw [List.getD_eq_getElem?_getD, List.getD_eq_getElem?_getD, List.getElem?_append_left (by rw [← h.n]; exact hlt)]
      show IRow _ v (((s.rows ++ [[]]).getD j []).map (.int .i64))
      rw [e1]
      refine ((h.inn j v hj).kept (fun b e => hm.block b ((h.inn j v hj).lt b e) (fun e2 => (h.r2 j v hj b e).2 e2)) hm.size).kept (fun b e => hne b (h.r2 j v hj b e).1) hsz
    · rename_i hlt
      have : j - vs.length = 0 := by
        rcases Nat.eq_zero_or_pos (j - vs.length) with h0 | h0
        · exact h0
        · rw [List.getElem?_eq_none (by simp only [List.length_cons, List.length_nil]; omega)] at hj
          cases hj
      rw [this] at hj
      have hj := Option.some.inj hj
      subst hj
      have e1 : (s.rows ++ [[]]).getD j [] = [] := by
        rw [List.getD_eq_getElem?_getD, List.getElem?_append_right (by rw [← h.n]; omega), ← h.n, this]
        rfl
      show IRow _ _ (((s.rows ++ [[]]).getD j []).map (.int .i64))
      rw [e1]
      exact .inl ⟨rfl, rfl⟩
  · rw [List.getElem?_append] at hj
    split at hj
    · refine ⟨(h.r2 j v hj b e).1, fun e2 => ?_⟩
      rcases hbl with e3 | e3
      · exact (h.r2 j v hj b e).2 (by rw [← e3]; exact e2)
      · rw [e3] at e2
        obtain rfl := Option.some.inj e2
        exact h.newBlock.2.2.1 j v hj e
    · rename_i hlt
      rcases Nat.eq_zero_or_pos (j - vs.length) with h0 | h0
      · rw [h0] at hj
        have hj := Option.some.inj hj
        subst hj
        cases e
      · rw [List.getElem?_eq_none (by simp only [List.length_cons, List.length_nil]; omega)] at hj
        cases hj
  · have hG : Gr w0 w (fun k => vr.ownBlock = some k) := ⟨h.b, fun k e => (h.r1 k e).2⟩
    have hG2 : Gr w0 W (fun k => (some g : Option Nat) = some k) := ⟨(hG.mod hm).b, fun k e => by obtain rfl := Option.some.inj e; exact h.g0⟩
    exact (hG2.mod (Mod.ofGrown (grown_set W ⟨g, 0, none⟩ vr') (fun k e => e))).b
end Go.Proofs.YtmdeehblmkpddaaDoor.Hand

namespace Go.Proofs.YtmdeehblmkpddaaDoor.Hand
open Go.RowKit Go.Proofs.YtmdeehblmkpddaaDoorW.PrintWords Go.Proofs.YtmdeehblmkpddaaDoorW.PrintLast
set_option linter.unusedVariables false
set_option linter.unusedSimpArgs false
theorem C_of_irowS {w : World} {A : Option Addr} {c : Nat} {l : List Int} (h : IRow w (.slice A l.length c) (l.map (.int .i64))) : Kd.C (Kd.int .i64) w A l.length l := by
  refine Kd.C_of_reads (d := (0 : Int)) ⟨rfl, ?_, fun hn => ?_⟩
  · obtain ⟨A', c', e, h1, h2⟩ := h.slice
    rw [List.length_map] at h1
    have : maxLen ≤ 9223372036854775807 := by unfold maxLen; omega
    omega
  · obtain ⟨b, off, cap, e, h1, h2, h3, h4, h5⟩ := h.form (by intro e; rw [List.map_eq_nil_iff] at e; rw [e] at hn; exact absurd hn (by decide))
    injection e with e1 e2 e3
    refine ⟨_, e1, fun j hj => ?_⟩
    rw [Addr.add_mid]
    refine h4 j _ ?_
    rw [List.getElem?_map, List.getElem?_eq_getElem hj]
    simp [List.getD_eq_getElem?_getD, List.getElem?_eq_getElem hj]
theorem SrcS_of {w : World} {A : Option Addr} {c : Nat} {l : List Int} (hr : Kd.C (Kd.int .i64) w A l.length l) (hc : l.length ≤ c) : Src Tryd.prog 1 33 (.slice A l.length c) l.length (l.map (.int .i64)) w := by
  have h := Kd.reads_of_C (d := (0 : Int)) hr
  by_cases hz : l.length = 0
  · have : l = [] := List.eq_nil_of_length_eq_zero hz
    subst this
    cases A with
    | none => exact Src.ofNil w Tryd.underlying33 c
    | some a => exact Src.ofSlice w Tryd.underlying33 a 0 c [] rfl (fun j u hj => by simp at hj) (fun u hu => by simp at hu)
  · obtain ⟨a, rfl, hcell⟩ := h.2.2 (by omega)
    refine Src.ofSlice w Tryd.underlying33 a l.length c (l.map (.int .i64)) (by simp) (fun j u hj => ?_) (fun u hu => ?_)
    · rw [List.getElem?_map] at hj
      by_cases hjl : j < l.length
      · rw [List.getElem?_eq_getElem hjl] at hj
        have hj : Value.int .i64 l[j] = u := by simpa using hj
        rw [hcell j hjl, ← hj]
        simp [List.getD_eq_getElem?_getD, List.getElem?_eq_getElem hjl]
      · rw [List.getElem?_eq_none (by omega)] at hj; cases hj
    · obtain ⟨x, _, rfl⟩ := List.mem_map.1 hu
      rfl
theorem info_int14 : (Tryd.prog.info? 3).map (fun i => (i.zero, i.size, i.bytes)) = some (some (.int .i64 0), 1, 8) := by kernel_rfl
section
variable {P : Program}
theorem wp_append_irow (w : World) {o : Oper} {a : Act} {K : Act → World → Prop} {Q : Exit → Act → World → Prop} (s x : Operand) (t tx : TypeId)
    (ho : o.op = .call { callee := .builtin .append, args := #[s, x], argTypes := #[t, tx] }) (e : TypeId) (i : TypeInfo) (z : Value) (bytes : Nat) (ht : P.underlying t = some (.slice e)) (hi : P.info? e = some i) (hz : i.zero = some z) (hsize : i.size = 1) (hby : i.bytes = bytes) (hzs : z.cells.size = 1)
    {v : Value} {xs : List Value} (hv : a.eval s = v) (h : IRow w v xs) {y : Value} (hx : a.eval x = y) (m : Nat) (news : List Value) (hs : Src P 1 tx y m news w) (h63 : xs.length + m ≤ maxLen) (hbytes : (xs.length + m) * bytes ≤ 140737488355328)
    (hK : ∀ v' w', IRow w' v' (xs ++ news) → w.grownBy w' v.ownBlock → (v'.ownBlock = v.ownBlock ∨ v'.ownBlock = some w.heap.size) → K (a.put o.dst v') w') : Oper.wp P o a w K Q := by
  obtain ⟨v', w', hrun, r1, r2, r3⟩ := run_append_irow (P := P) w t tx o.type e i z bytes ht hi hz hsize hby hzs h y m news hs h63 hbytes
  unfold Oper.wp
  simp [execOp, ho, resolve, invoke, builtin, hv, hx, hrun, Result.andThen]
  exact hK v' w' r1 r2 r3
end
theorem seeS {w0 w : World} {g : Nat} {s : SM} {br or_ cr : Nat} {vs : List Value} {u : Value} (hu : vs[s.row]? = some u) (h : SeeX w0 w g s (.slice (some ⟨br, or_, none⟩) vs.length cr) vs) :
    w.cell? ⟨g, 0, none⟩ = some (.slice (some ⟨br, or_, none⟩) vs.length cr) ∧ w.cell? ⟨g, 1, none⟩ = some (.int .i64 s.row) ∧ w.cell? ⟨br, or_ + s.row, none⟩ = some u ∧ SeeX w0 w g s (.slice (some ⟨br, or_, none⟩) vs.length cr) vs := by
  refine ⟨(blk_cell h.me 0).trans rfl, (blk_cell h.me 1).trans rfl, ?_, h⟩
  obtain ⟨br', or', cr', hv, h1, h2, h3, h4, h5⟩ := h.rs.form (by intro e; rw [e] at hu; simp at hu)
  injection hv with e1 e2 e3
  injection e1 with e1
  injection e1 with e1 e4
  subst e1; subst e4
  exact h4 s.row u hu
theorem seeF {w0 w : World} {g : Nat} {s : SM} {br or_ cr : Nat} {vs : List Value} (hr : s.row < vs.length) (h : SeeX w0 w g s (.slice (some ⟨br, or_, none⟩) vs.length cr) vs) : w.frozen? ⟨br, or_ + s.row, none⟩ = false := by
  obtain ⟨br', or', cr', hv, h1, h2, h3, h4, h5⟩ := h.rs.form (by intro e; rw [e] at hr; simp at hr)
  injection hv with e1 e2 e3
  injection e1 with e1
  injection e1 with e1 e4
  subst e1; subst e4; subst e3
  exact (h5 s.row (by omega)).2
theorem SeeX.drew {w0 w : World} {g : Nat} {s : SM} {vr : Value} {vs : List Value} (h : SeeX w0 w g s vr vs) : SeeX w0 w.drew g s vr vs := h.below (below_drew1 (Below.refl _ _))
set_option maxHeartbeats 4000000 in
set_option maxRecDepth 100000 in
theorem seeChar (w0 w : World) (g : Nat) (s : SM) (vr : Value) (vs : List Value) (c : Int) (n : Nat) (h : SeeX w0 w g s vr vs) (hf : s.Fine n) (hn : n ≤ 1000000) :
    Calls Tryd.prog 42 #[.pointer (some ⟨g, 0, none⟩), .int .i64 c] w fun e w' => e = .returned (.tuple #[]) ∧ ∃ vr' vs', SeeX w0 w' g (s.show c) vr' vs' := by
  obtain ⟨i0, hi, hz0, hz1, hz2⟩ := info_parts info_int14
  have hrow : s.row < vs.length := by rw [h.n]; exact hf.row
  obtain ⟨br, or_, cr, rfl, hcr, hcm, hbr, hrng, hth⟩ := h.rs.form (by intro e; rw [e] at hrow; simp at hrow)
  have hu := List.getElem?_eq_getElem hrow
  have hin := h.inn s.row (vs[s.row]'hrow) hu
  change IRow w (vs[s.row]'hrow) (s.rowOf.map (.int .i64)) at hin
  obtain ⟨A0, cap0, hv0, hc0, hm0⟩ := hin.slice
  rw [List.length_map] at hv0 hc0
  rw [hv0] at hu hin
  have hlen : s.rowOf.length ≤ n := by
    unfold SM.rowOf
    rw [List.getD_eq_getElem?_getD, List.getElem?_eq_getElem hf.row]
    exact hf.len _ (List.getElem_mem hf.row)
  have hcol := hf.col
  have hnA : vs.length ≤ n := by rw [h.n]; exact hf.rows
  have hrI : ((s.row : Int) < (vs.length : Int)) := by omega
  have hr0 : (0 : Int) ≤ (s.row : Int) := by omega
  have HU := Aside0.mk hu
  have HX := Aside0.mk h
  have HI := Aside0.mk (show ∀ W : World, Below w.heap.size w W → Kd.C (Kd.int .i64) W A0 s.rowOf.length s.rowOf from fun W hb => C_of_irowS (hin.below hb))
  have hl0 := Aside0.mk (show s.show c = { s with rows := s.rows.set s.row ((s.rowOf ++ List.replicate (s.col + 1 - s.rowOf.length) 32).set s.col c), col := s.col + 1 } from rfl)
  have F := seeS hu h
  have m0 := F.1
  have m1 := F.2.1
  have m3 := F.2.2.1
  clear hin hv0 hrng hth hm0 hu h F hf
  generalize s.rowOf = l0 at *
  go_enter Tryd.func42, Tryd.ntmps42
  go_wp2_with (fail)
  refine wp_region_noPanic ?_
  refine wp_region_held_drew (S := (fun w' => w'.cell? ⟨g, 0, none⟩ = some (.slice (some ⟨br, or_, none⟩) vs.length cr) ∧ w'.cell? ⟨g, 1, none⟩ = some (.int .i64 s.row) ∧ w'.cell? ⟨br, or_ + s.row, none⟩ = some (.slice A0 l0.length cap0) ∧ SeeX w0 w' g s (.slice (some ⟨br, or_, none⟩) vs.length cr) vs)) (by kernel_rfl) (seeS HU.out HX.out.drew) (fun hHeld => ?_)
  refine wpAnyH_take (i := 1) (oi := { dst := some 6, op := Op.move (Operand.tmp 0), type := 42, pos := "ref.go:22", after := #[], guard := none }) (v := ?_) rfl (by kernel_rfl) (by kernel_rfl) (by kernel_rfl) (fun _ _ _ h => h) (Or.inl ⟨by rfl, ?_⟩) hHeld ?_
  rotate_left 1
  · (intro wq hSw; (try dsimp only at hSw); go_simp; try with_reducible rfl)
  try simp only [Act.put, List.setIfInBounds_toArray, List.set_cons_zero, List.set_cons_succ]
  refine wpAnyH_take (i := 2) (oi := { dst := some 7, op := Op.nilCheck (Operand.tmp 6), type := 0, pos := "ref.go:22", after := #[{ on := 1, ground := Ground.data }], guard := none }) (v := ?_) rfl (by kernel_rfl) (by kernel_rfl) (by kernel_rfl) (fun _ _ _ h => h) (Or.inl ⟨by rfl, ?_⟩) hHeld ?_
  rotate_left 1
  · (intro wq hSw; (try dsimp only at hSw); go_simp; try with_reducible rfl)
  try simp only [Act.put, List.setIfInBounds_toArray, List.set_cons_zero, List.set_cons_succ]
  refine wpAnyH_take (i := 3) (oi := { dst := some 8, op := Op.fieldAddr 69 (Operand.tmp 7) 0, type := 0, pos := "ref.go:22", after := #[{ on := 2, ground := Ground.data }], guard := none }) (v := ?_) rfl (by kernel_rfl) (by kernel_rfl) (by kernel_rfl) (fun _ _ _ h => h) (Or.inl ⟨by rfl, ?_⟩) hHeld ?_
  rotate_left 1
  · (intro wq hSw; (try dsimp only at hSw); go_simp; try with_reducible rfl)
  try simp only [Act.put, List.setIfInBounds_toArray, List.set_cons_zero, List.set_cons_succ]
  refine wpAnyH_take (i := 4) (oi := { dst := some 9, op := Op.load 67 (Operand.tmp 8), type := 67, pos := "ref.go:22", after := #[{ on := 3, ground := Ground.data }], guard := none }) (v := ?_) rfl (by kernel_rfl) (by kernel_rfl) (by kernel_rfl) (fun _ _ _ h => h) (Or.inl ⟨by rfl, ?_⟩) hHeld ?_
  rotate_left 1
  · (intro wq hSw; (try dsimp only at hSw); go_simp; try with_reducible rfl)
  try simp only [Act.put, List.setIfInBounds_toArray, List.set_cons_zero, List.set_cons_succ]
  refine wpAnyH_take (i := 5) (oi := { dst := some 10, op := Op.move (Operand.tmp 0), type := 42, pos := "ref.go:22", after := #[], guard := none }) (v := ?_) rfl (by kernel_rfl) (by kernel_rfl) (by kernel_rfl) (fun _ _ _ h => h) (Or.inl ⟨by rfl, ?_⟩) hHeld ?_
  rotate_left 1
  · (intro wq hSw; (try dsimp only at hSw); go_simp; try with_reducible rfl)
  try simp only [Act.put, List.setIfInBounds_toArray, List.set_cons_zero, List.set_cons_succ]
  refine wpAnyH_take (i := 6) (oi := { dst := some 11, op := Op.nilCheck (Operand.tmp 10), type := 0, pos := "ref.go:22", after := #[{ on := 5, ground := Ground.data }], guard := none }) (v := ?_) rfl (by kernel_rfl) (by kernel_rfl) (by kernel_rfl) (fun _ _ _ h => h) (Or.inl ⟨by rfl, ?_⟩) hHeld ?_
  rotate_left 1
  · (intro wq hSw; (try dsimp only at hSw); go_simp; try with_reducible rfl)
  try simp only [Act.put, List.setIfInBounds_toArray, List.set_cons_zero, List.set_cons_succ]
  refine wpAnyH_take (i := 7) (oi := { dst := some 12, op := Op.fieldAddr 69 (Operand.tmp 11) 1, type := 0, pos := "ref.go:22", after := #[{ on := 6, ground := Ground.data }], guard := none }) (v := ?_) rfl (by kernel_rfl) (by kernel_rfl) (by kernel_rfl) (fun _ _ _ h => h) (Or.inl ⟨by rfl, ?_⟩) hHeld ?_
  rotate_left 1
  · (intro wq hSw; (try dsimp only at hSw); go_simp; try with_reducible rfl)
  try simp only [Act.put, List.setIfInBounds_toArray, List.set_cons_zero, List.set_cons_succ]
  refine wpAnyH_take (i := 8) (oi := { dst := some 13, op := Op.load 3 (Operand.tmp 12), type := 3, pos := "ref.go:22", after := #[{ on := 7, ground := Ground.data }], guard := none }) (v := ?_) rfl (by kernel_rfl) (by kernel_rfl) (by kernel_rfl) (fun _ _ _ h => h) (Or.inl ⟨by rfl, ?_⟩) hHeld ?_
  rotate_left 1
  · (intro wq hSw; (try dsimp only at hSw); go_simp; try with_reducible rfl)
  try simp only [Act.put, List.setIfInBounds_toArray, List.set_cons_zero, List.set_cons_succ]
  refine wpAnyH_take (i := 9) (oi := { dst := some 14, op := Op.indexAddr 67 (Operand.tmp 9) (Operand.tmp 13), type := 0, pos := "ref.go:22", after := #[{ on := 4, ground := Ground.data }, { on := 8, ground := Ground.data }], guard := none }) (v := ?_) rfl (by kernel_rfl) (by kernel_rfl) (by kernel_rfl) (fun _ _ _ h => h) (Or.inl ⟨by rfl, ?_⟩) hHeld ?_
  rotate_left 1
  · (intro wq hSw; (try dsimp only at hSw); go_simp; try with_reducible rfl)
  try simp only [Act.put, List.setIfInBounds_toArray, List.set_cons_zero, List.set_cons_succ]
  refine wpAnyH_take (i := 10) (oi := { dst := some 15, op := Op.load 33 (Operand.tmp 14), type := 33, pos := "ref.go:22", after := #[{ on := 9, ground := Ground.data }], guard := none }) (v := ?_) rfl (by kernel_rfl) (by kernel_rfl) (by kernel_rfl) (fun _ _ _ h => h) (Or.inl ⟨by rfl, ?_⟩) hHeld ?_
  rotate_left 1
  · (intro wq hSw; (try dsimp only at hSw); go_simp; try with_reducible rfl)
  try simp only [Act.put, List.setIfInBounds_toArray, List.set_cons_zero, List.set_cons_succ]
  refine wpAnyH_ready (rs := [0]) (by kernel_rfl) (by simp) ?_
  refine AllReadyH.cons (o := { dst := some 5, op := Op.buildSlice 33 0 #[], type := 33, pos := "ref.go:22", after := #[], guard := none }) rfl (fun K hK => ?_) ?_
  rotate_left 1
  · exact AllReadyH.nil
  go_simp
  refine hK.out _ _ (seeS HU.out (hHeld.2.2.2.below ((Below.refl _ w.drew).alloc (Nat.le_refl _) _))) (fun hHeld2 => ?_)
  clear hK K
  try simp only [Act.put, List.setIfInBounds_toArray, List.set_cons_zero, List.set_cons_succ]
  have HL := Aside0.mk (hHeld.2.2.2.start 3)
  have HC := Aside0.mk (HI.out _ (((below_drew1 (Below.refl w.heap.size w))).alloc (by simp) (.cells #[] 3)))
  refine wpAnyH_ready (rs := [11]) (by kernel_rfl) (by simp) ?_
  refine AllReadyH.cons (o := { dst := some 16, op := Op.call { callee := Callee.builtin Builtin.append, args := #[Operand.tmp 5, Operand.tmp 15], argTypes := #[33, 33] }, type := 33, pos := "ref.go:22", after := #[{ on := 0, ground := Ground.data }, { on := 10, ground := Ground.data }], guard := none }) rfl (fun K hK => ?_) ?_
  rotate_left 1
  · exact AllReadyH.nil
  rw [if_pos (by rfl)]
  refine wp_append_irow _ (.tmp 5) (.tmp 15) 33 33 rfl 3 i0 (.int .i64 0) 8 Tryd.underlying33 hi hz0 hz1 hz2 rfl rfl HL.out.vr_ rfl _ _ (SrcS_of HC.out hc0) (by simp only [List.length_map, List.length_nil]; unfold maxLen; omega) (by simp only [List.length_map, List.length_nil]; omega) ?_
  intro v1 w1 hown hgr hbl
  have HL1 := Aside0.mk (HL.out.grown (l' := l0) (by simpa using hown) hgr hbl)
  clear hown hgr hbl HL HC hHeld
  refine hK.out _ _ (seeS HU.out HL1.out.x) (fun hHeld => ?_)
  clear hK K hHeld2
  try simp only [Act.put, List.setIfInBounds_toArray, List.set_cons_zero, List.set_cons_succ]
  refine wpAnyH_take (i := 12) (oi := { dst := some 4, op := Op.assign (Operand.tmp 16), type := 33, pos := "ref.go:22", after := #[{ on := 11, ground := Ground.data }, { on := 11, ground := Ground.chain }, { on := 0, ground := Ground.phase }, { on := 1, ground := Ground.phase }, { on := 2, ground := Ground.phase }, { on := 3, ground := Ground.phase }, { on := 4, ground := Ground.phase }, { on := 5, ground := Ground.phase }, { on := 6, ground := Ground.phase }, { on := 7, ground := Ground.phase }, { on := 8, ground := Ground.phase }, { on := 9, ground := Ground.phase }, { on := 10, ground := Ground.phase }, { on := 11, ground := Ground.phase }], guard := none }) (v := ?_) rfl (by kernel_rfl) (by kernel_rfl) (by kernel_rfl) (fun _ _ _ h => h) (Or.inl ⟨by rfl, ?_⟩) hHeld ?_
  rotate_left 1
  · (intro wq hSw; (try dsimp only at hSw); go_simp; try with_reducible rfl)
  try simp only [Act.put, List.setIfInBounds_toArray, List.set_cons_zero, List.set_cons_succ]
  refine wpAnyH_done (by kernel_rfl) ?_ _
  refine NoPanic.normal ?_
  clear hHeld m0 m1 m3 HI
  go_wp2_with (fail)
  obtain ⟨A1, c1, hv1, hc1, _⟩ := HL1.out.vr_.slice
  rw [List.length_map] at hv1 hc1
  subst hv1
  go_loopw [4] (fun v4 wr => ∃ (l : List Int) (A : Option Addr) (cap : Nat), v4 = .slice A l.length cap ∧ Aside0 (∃ j, l = l0 ++ List.replicate j 32 ∧ (j = 0 ∨ l.length ≤ s.col + 1)) ∧ Aside0 (SeeL w0 wr g s (.slice (some ⟨br, or_, none⟩) vs.length cr) vs (.slice A l.length cap) l)) (fun v4 _ => match v4 with | .slice _ q _ => s.col + 1 - q | _ => 0)
  case atStart => exact ⟨l0, A1, c1, rfl, ⟨0, by simp, .inl rfl⟩, HL1⟩
  case round =>
    clear HL1
    obtain ⟨l, A, cap, rfl, hj, hR⟩ := hrel
    have m2 : wr.cell? ⟨g, 2, none⟩ = some (.int .i64 s.col) := (blk_cell hR.out.x.me 2).trans rfl
    by_cases hlt : l.length ≤ s.col
    · have hR1 := Aside0.mk (hR.out.below ((Below.refl _ wr).alloc (Nat.le_refl _) (.cells #[.int .i64 32] 3)))
      have hblk := Aside0.mk (heap_alloc_new wr (.cells #[.int .i64 32] 3))
      go_wp2_with (at_builtin; refine wpList_append_irow _ rfl _ _ 33 33 rfl 3 i0 (.int .i64 0) 8 Tryd.underlying33 hi hz0 hz1 hz2 rfl rfl hR1.out.vr_ rfl 1 [.int .i64 32] (Src.ofSlice _ Tryd.underlying33 ⟨wr.heap.size, 0, none⟩ 1 1 [.int .i64 32] rfl (fun j u hj => by
        match j, hj with
        | 0, hj => injection hj with hj; subst hj; exact (blk_cell hblk.out 0).trans rfl
        | j + 1, hj => simp at hj) (by simp [Value.oneCell'])) (by rw [List.length_map]; unfold maxLen; omega) (by rw [List.length_map]; omega) ?_; intro v' w1 hown hgr hbl)
      have hown' : IRow w1 v' ((l ++ [32]).map (.int .i64)) := by rw [List.map_append]; exact hown
      obtain ⟨A', cap', hv', _, _⟩ := hown'.slice
      rw [List.length_map] at hv'
      have hnew := hR1.out.grown hown' hgr hbl
      subst hv'
      obtain ⟨j, hj1, hj2⟩ := hj.out
      refine ⟨⟨l ++ [32], A', cap', rfl, ⟨j + 1, ?_, .inr (by simp; omega)⟩, ⟨hnew⟩⟩, ?_⟩
      · rw [hj1, List.append_assoc, ← List.replicate_succ']
      · simp; omega
    · have hlc : s.col < l.length := by omega
      obtain ⟨b, off, cap', hve, h1, h2, h3, h4, h5⟩ := hR.out.vr_.form (by intro e; rw [List.map_eq_nil_iff] at e; rw [e] at hlc; simp at hlc)
      rw [List.length_map] at hve h1
      injection hve with e1 e2 e3
      subst e1; subst e3
      have q0 := h4 s.col (.int .i64 (l[s.col]'hlc)) (by simp [List.getElem?_eq_getElem hlc])
      have q1 := (h5 s.col (by omega)).2
      have hP := Aside0.mk (hR.out.put s.col hlc c)
      have hcI : ((s.col : Int) < (l.length : Int)) := by omega
      have hc0' : (0 : Int) ≤ (s.col : Int) := by omega
      have hll : Aside0 (l = l0 ++ List.replicate (s.col + 1 - l0.length) 32) := by
        obtain ⟨j, hj1, hj2⟩ := hj.out
        refine ⟨?_⟩
        rw [hj1]
        congr 2
        rw [hj1, List.length_append, List.length_replicate] at hlc hj2
        rcases hj2 with rfl | hj2 <;> omega
      clear hR hj h1 h2 h3 h4 h5
      go_wp2_with (fail)
      generalize wr.setCell ⟨b, off + s.col, none⟩ (.int .i64 c) = W1 at *
      have F := seeS HU.out hP.out.x
      have n0 := F.1
      have n1 := F.2.1
      have n3 := F.2.2.1
      have n4 := seeF hrow hP.out.x
      have hho := fun (b' : Nat) (e : (Value.slice (some ⟨b, off, none⟩) l.length cap).ownBlock = some b') => hP.out.o b' e
      have C1 := hP.out.x.drew.close s.row hrow (v := .slice (some ⟨b, off, none⟩) l.length cap) (l := l.set s.col c) (hP.out.vr_.below (below_drew1 (Below.refl _ _))) (fun b' e => ⟨(hho b' e).1, fun e2 => (hho b' e).2.1 (by rw [e2]; rfl)⟩)
      have f4 : (W1.drew.setCell ⟨br, or_ + s.row, none⟩ (.slice (some ⟨b, off, none⟩) l.length cap)).cell? ⟨g, 2, none⟩ = some (.int .i64 s.col) := (blk_cell C1.me 2).trans rfl
      have f5 := blk_frozen C1.me 2
      have f4' : (W1.setCell ⟨br, or_ + s.row, none⟩ (.slice (some ⟨b, off, none⟩) l.length cap)).cell? ⟨g, 2, none⟩ = some (.int .i64 s.col) := f4
      have f5' : (W1.setCell ⟨br, or_ + s.row, none⟩ (.slice (some ⟨b, off, none⟩) l.length cap)).frozen? ⟨g, 2, none⟩ = false := f5
      have hE := Aside0.mk (C1.field (s' := s.show c) 2 (.int .i64 ((s.col : Int) + 1)) (by rw [hl0.out, hll.out]; rfl) (by rw [hl0.out, hll.out]))
      have hwr : IntKind.i64.wrap ((s.col : Int) + 1) = (s.col : Int) + 1 := by unfold IntKind.wrap; simp [IntKind.bits]; omega
      clear F C1 hho hP hll HX
      refine wp_region_still_tail 10 (by kernel_rfl) (by kernel_rfl) ?_
      simp only [List.take_succ_cons, List.take_zero, List.drop_succ_cons, List.drop_zero]
      rw [show ({ W1 with drawn := W1.drawn + 1 } : World) = W1.drew from rfl]
      repeat still_step
      try refine wpStill_nil ?_
      go_wp2_with (fail)
      go_end0
      exact ⟨rfl, _, _, hE.out⟩
end Go.Proofs.YtmdeehblmkpddaaDoor.Hand

namespace Go.Proofs.YtmdeehblmkpddaaDoor.Hand
open Go.RowKit Go.Proofs.YtmdeehblmkpddaaDoorW.PrintWords Go.Proofs.YtmdeehblmkpddaaDoorW.PrintLast
set_option linter.unusedVariables false
set_option linter.unusedSimpArgs false

theorem w64 {x : Int} (h0 : -9223372036854775808 ≤ x) (h1 : x ≤ 9223372036854775807) : wrap64 x = x := by unfold wrap64; omega
theorem bt_drop (s : ByteArray) (i : Nat) (h : i < s.size) : ∃ c, s.data.toList.drop i = c :: s.data.toList.drop (i + 1) ∧ bt s (i : Int) = (c.toNat : Int) ∧ s.extract i (i + 1) = ⟨#[c]⟩ := by
  have hl : i < s.data.toList.length := by simpa using h
  refine ⟨s.data.toList[i], List.drop_eq_getElem_cons hl, ?_, ?_⟩
  · unfold bt
    rw [dif_pos (by simpa using h)]
    rfl
  · apply ba_ext
    rw [Lib.extract_data, List.drop_eq_getElem_cons hl]
    simp

/-! a text cut at a byte -//-! a number of digits -/
def isDigB (b : Nat) (l : List UInt8) : Bool := l.all fun c => decide (0 ≤ udg c) && decide (udg c < b)
theorem isDigB_iff (b : Nat) (l : List UInt8) : isDigB b l = true ↔ IsDig b l := by
  unfold isDigB IsDig
  simp
def numB (b most : Nat) (l : List UInt8) : Int := if l = [] ∨ most < l.length ∨ (l.head? = some 48 ∧ l ≠ [48]) then -1 else if isDigB b l = true then (valB b l : Int) else -1
theorem dig_bad (b : Nat) (x : UInt8) (r : List UInt8) (h : ¬ (0 ≤ udg x ∧ udg x < b)) : isDigB b (x :: r) = false := by
  unfold isDigB
  rw [List.all_cons]
  have : (decide (0 ≤ udg x) && decide (udg x < b)) = false := by
    rw [Bool.eq_false_iff]
    simpa using h
  rw [this, Bool.false_and]
theorem dig_good (b : Nat) (x : UInt8) (r : List UInt8) (dd : Nat) (hdd : udg x = dd) (hlt : dd < b) : isDigB b (x :: r) = isDigB b r := by
  unfold isDigB
  rw [List.all_cons, hdd]
  simp [hlt]
/-- What the loop answers of what is left. -/
def numR (b acc : Nat) (l : List UInt8) : Int := if isDigB b l = true then ((l.foldl (fun a c => a * b + (udg c).toNat) acc : Nat) : Int) else -1
theorem numR_bad (b acc : Nat) (x : UInt8) (r : List UInt8) (h : ¬ (0 ≤ udg x ∧ udg x < b)) : numR b acc (x :: r) = -1 := by
  unfold numR
  rw [dig_bad b x r h]
  rfl
theorem numR_good (b acc : Nat) (x : UInt8) (r : List UInt8) (dd : Nat) (hdd : udg x = dd) (hlt : dd < b) : numR b acc (x :: r) = numR b (acc * b + dd) r := by
  unfold numR
  rw [dig_good b x r dd hdd hlt, List.foldl_cons, hdd, Int.toNat_natCast]
theorem udg_hi {x : UInt8} (h : (x.toNat : Int) - 48 > 9) (h2 : ¬ ((x.toNat : Int) - 87 < 10)) : udg x = (x.toNat : Int) - 87 := by unfold udg; rw [if_pos (by omega), if_pos (by omega)]
theorem udg_mid {x : UInt8} (h : (x.toNat : Int) - 48 > 9) (h2 : (x.toNat : Int) - 87 < 10) : udg x < 0 := by unfold udg; rw [if_pos (by omega), if_neg (by omega)]; omega
theorem udg_lo {x : UInt8} (h : ¬ ((x.toNat : Int) - 48 > 9)) : udg x = (x.toNat : Int) - 48 := by unfold udg; rw [if_neg (by omega)]
theorem pow_room {acc b d dd : Nat} (hb : 2 ≤ b) (hdd : dd < b) (h : (acc + 1) * b ^ (d + 1) ≤ 4611686018427387904) : (acc * b + dd + 1) * b ^ d ≤ 4611686018427387904 ∧ acc * b + dd ≤ 4611686018427387904 ∧ acc * b ≤ 4611686018427387904 := by
  have h3 : (acc + 1) * b * b ^ d = (acc + 1) * b ^ (d + 1) := by rw [Nat.pow_succ, Nat.mul_assoc, Nat.mul_comm b]
  have h4 : acc * b + dd + 1 ≤ (acc + 1) * b := by rw [Nat.add_mul]; omega
  have h2 : (acc * b + dd + 1) * b ^ d ≤ ((acc + 1) * b) * b ^ d := Nat.mul_le_mul_right _ h4
  have h5 : (acc * b + dd + 1) * 1 ≤ (acc * b + dd + 1) * b ^ d := Nat.mul_le_mul_left _ (Nat.pow_pos (by omega))
  omega
open PNumber in
theorem num_step (s : ByteArray) (b : Nat) (hb : 2 ≤ b) (h16 : b ≤ 16) (hs : s.size ≤ 1000000) (i k acc : Nat) (x : UInt8) (r : List UInt8) (hi : i < s.size) (hx2 : bt s (i : Int) = (x.toNat : Int)) (hm : acc * b + b ≤ 9000000000000000000)
    (ih : ∀ dd : Nat, dd < b → udg x = dd → whispererref06_Number.l0 k s (b : Int) ((acc * b + dd : Nat) : Int) ((i + 1 : Nat) : Int) = some (numR b (acc * b + dd) r)) :
    whispererref06_Number.l0 (k + 1) s (b : Int) (acc : Int) (i : Int) = some (numR b acc (x :: r)) := by
  have hx : x.toNat < 256 := x.toNat_lt
  obtain ⟨m, hmm⟩ : ∃ m, acc * b = m := ⟨_, rfl⟩
  rw [hmm] at hm ih
  have hp (dd : Nat) (hdd : dd < b) : wrap64 ((m : Int) + (dd : Int)) = ((m + dd : Nat) : Int) := by rw [w64 (by omega) (by omega)]; omega
  have em0 : ((b : Int) * (acc : Int)) = (m : Int) := by
    rw [← hmm]; push_cast; exact Int.mul_comm _ _
  simp only [whispererref06_Number.l0]
  rw [if_pos (by omega), if_pos (by omega), hx2, em0, w64 (x := (x.toNat : Int)) (by omega) (by omega), w64 (x := (x.toNat : Int) - 48) (by omega) (by omega), w64 (x := (x.toNat : Int) - 87) (by omega) (by omega), w64 (x := (m : Int)) (by omega) (by omega), w64 (x := (i : Int) + 1) (by omega) (by omega), show ((i : Int) + 1) = ((i + 1 : Nat) : Int) by omega]
  clear em0
  by_cases c1 : (x.toNat : Int) - 48 > 9
  · rw [if_pos c1]
    by_cases c2 : (x.toNat : Int) - 87 < 10
    · have hu := udg_mid c1 c2
      rw [if_pos c2, numR_bad b acc x r (by omega)]
    · have hu := udg_hi c1 c2
      rw [if_neg c2, if_neg (by omega)]
      by_cases c3 : (x.toNat : Int) - 87 ≥ b
      · rw [if_pos c3, numR_bad b acc x r (by omega)]
      · obtain ⟨dd, hdd⟩ : ∃ dd : Nat, (x.toNat : Int) - 87 = dd := ⟨x.toNat - 87, by omega⟩
        rw [if_neg c3, hdd, hp dd (by omega), ih dd (by omega) (by omega), numR_good b acc x r dd (by omega) (by omega), hmm]
  · have hu := udg_lo c1
    rw [if_neg c1]
    by_cases c2 : (x.toNat : Int) - 48 < 0
    · rw [if_pos c2, numR_bad b acc x r (by omega)]
    · rw [if_neg c2]
      by_cases c3 : (x.toNat : Int) - 48 ≥ b
      · rw [if_pos c3, numR_bad b acc x r (by omega)]
      · obtain ⟨dd, hdd⟩ : ∃ dd : Nat, (x.toNat : Int) - 48 = dd := ⟨x.toNat - 48, by omega⟩
        rw [if_neg c3, hdd, hp dd (by omega), ih dd (by omega) (by omega), numR_good b acc x r dd (by omega) (by omega), hmm]
open PNumber in
theorem num_loop (s : ByteArray) (b : Nat) (hb : 2 ≤ b) (h16 : b ≤ 16) (hs : s.size ≤ 1000000) (d : Nat) : ∀ (i k acc : Nat), i + d = s.size → (acc + 1) * b ^ d ≤ 4611686018427387904 →
    whispererref06_Number.l0 (k + 1 + d) s (b : Int) (acc : Int) (i : Int) = some (numR b acc (s.data.toList.drop i)) := by
  induction d with
  | zero =>
    intro i k acc h h1
    show whispererref06_Number.l0 (k + 1) _ _ _ _ = _
    simp only [whispererref06_Number.l0]
    rw [if_neg (by omega), List.drop_eq_nil_of_le (by simp; omega)]
    rfl
  | succ d ih =>
    intro i k acc h h1
    obtain ⟨x, hx1, hx2, hx3⟩ := bt_drop s i (by omega)
    rw [hx1]
    have hr := pow_room hb (show 0 < b by omega) h1
    exact num_step s b hb h16 hs i (k + 1 + d) acc x _ (by omega) hx2 (by have := hr.2.2; omega) (fun dd hdd _ => ih (i + 1) k _ (by omega) (pow_room hb hdd h1).1)
theorem num_eq (s : ByteArray) (b most k : Nat) (hb : 2 ≤ b) (h16 : b ≤ 16) (hm : most ≤ 1000000) (hp : b ^ most ≤ 4611686018427387904) (hk : most ≤ k) :
    PNumber.whispererref06_Number.f (k + 3) s (b : Int) (most : Int) = some (numB b most s.data.toList) := by
  have jt (a : ByteArray) (x y : Int) : PNumber.whispererref06_Number.j0 (k + 3) a x y true = some (-1) := by simp [PNumber.whispererref06_Number.j0]
  have jf (a : ByteArray) (x y : Int) : PNumber.whispererref06_Number.j0 (k + 3) a x y false = PNumber.whispererref06_Number.l0 (k + 2) a x y 0 := by simp [PNumber.whispererref06_Number.j0]
  have hlen : s.data.toList.length = s.size := by simp
  unfold PNumber.whispererref06_Number.f numB
  rw [ByteArray.toList_eq]
  by_cases h0 : s.data.toList = []
  · rw [if_pos h0, jt, if_pos (.inl h0)]
  · rw [if_neg h0]
    by_cases h1 : (s.size : Int) > (most : Int)
    · rw [if_pos h1, jt, if_pos (.inr (.inl (by omega)))]
    · rw [if_neg h1]
      have hpos : 0 < s.size := by
        rcases Nat.eq_zero_or_pos s.size with h | h
        · exact absurd (List.eq_nil_of_length_eq_zero (by omega)) h0
        · exact h
      rw [if_pos (by omega)]
      obtain ⟨x, hx1, hx2, hx3⟩ := bt_drop s 0 hpos
      rw [List.drop_zero] at hx1
      have hhead : s.data.toList.head? = some x := by rw [hx1]; rfl
      have loop : PNumber.whispererref06_Number.l0 (k + 2) s (b : Int) 0 0 = some (if isDigB b s.data.toList = true then (valB b s.data.toList : Int) else -1) := by
        show _ = some (numR b 0 s.data.toList)
        have hps : (0 + 1) * b ^ s.size ≤ 4611686018427387904 := by
          have : b ^ s.size ≤ b ^ most := Nat.pow_le_pow_right (by omega) (by omega)
          omega
        have := num_loop s b hb h16 (by omega) s.size 0 (k + 1 - s.size) 0 (by omega) hps
        rw [show k + 1 - s.size + 1 + s.size = k + 2 by omega, List.drop_zero] at this
        exact this
      rw [show ((0 : Nat) : Int) = (0 : Int) from rfl] at hx2
      rw [hx2]
      by_cases h2 : (x.toNat : Int) = 48
      · rw [if_pos h2]
        have e48 : x = 48 := UInt8.toNat_inj.1 (by simp; omega)
        by_cases h3 : s.data.toList = [48]
        · have : (s.data.toList != ([48] : List UInt8)) = false := by simpa using h3
          have hN : ¬ (s.data.toList = [] ∨ most < s.data.toList.length ∨ (s.data.toList.head? = some 48 ∧ s.data.toList ≠ [48])) := by
            rintro (h | h | h)
            · exact h0 h
            · omega
            · exact h.2 h3
          rw [this, jf, loop, if_neg hN]
        · have : (s.data.toList != ([48] : List UInt8)) = true := by simpa using h3
          rw [this, jt, if_pos (.inr (.inr ⟨by rw [hhead, e48], h3⟩))]
      · have hN : ¬ (s.data.toList = [] ∨ most < s.data.toList.length ∨ (s.data.toList.head? = some 48 ∧ s.data.toList ≠ [48])) := by
          rintro (h | h | h)
          · exact h0 h
          · omega
          · rw [hhead] at h
            have := Option.some.inj h.1
            subst this
            exact h2 rfl
        rw [if_neg h2, jf, loop, if_neg hN]
/-- What is read is the numeral of it. -/
theorem numB_sound {b most : Nat} {l : List UInt8} (hb : 2 ≤ b) (h16 : b ≤ 16) (h : 0 ≤ numB b most l) : digs b (numB b most l).toNat = l ∧ l.length ≤ most ∧ (numB b most l).toNat = valB b l := by
  unfold numB at h ⊢
  by_cases h1 : l = [] ∨ most < l.length ∨ (l.head? = some 48 ∧ l ≠ [48])
  · rw [if_pos h1] at h; omega
  · rw [if_neg h1] at h ⊢
    by_cases h2 : isDigB b l = true
    · rw [if_pos h2, Int.toNat_natCast]
      refine ⟨digs_valB b hb h16 l ((isDigB_iff b l).1 h2) ⟨fun e => h1 (.inl e), fun e => ?_⟩, ?_, rfl⟩
      · by_cases e2 : l = [48]
        · exact e2
        · exact absurd (.inr (.inr ⟨e, e2⟩)) h1
      · by_cases e : most < l.length
        · exact absurd (.inr (.inl e)) h1
        · omega
    · rw [if_neg h2] at h; omega
theorem numB_digs {b most u : Nat} (hb : 2 ≤ b) (h16 : b ≤ 16) (h : (digs b u).length ≤ most) : numB b most (digs b u) = u := by
  unfold numB
  rw [if_neg, if_pos ((isDigB_iff b _).2 (digs_dig b u hb h16)), valB_digs b u hb h16]
  rintro (e | e | e)
  · exact digs_ne b u e
  · omega
  · exact e.2 ((digs_canon b u hb h16).2 e.1)

/-! columns gone back: the program's and the document's -/
theorem digs_lt : ∀ (n u : Nat), (digs 10 u).length ≤ n → u < 10 ^ n
  | 0, u, h => by
    have := digs_ne 10 u
    exact absurd (List.eq_nil_of_length_eq_zero (Nat.le_zero.1 h)) this
  | n + 1, u, h => by
    have hp : 0 < 10 ^ n := Nat.pow_pos (by decide)
    rw [Nat.pow_succ]
    by_cases hu : u < 10
    · omega
    · rw [digs, dif_neg (by omega), List.length_append, List.length_singleton] at h
      have := digs_lt n (u / 10) (by omega)
      omega
theorem num_back (p : List UInt8) : (atoiOk p && decide (0 < atoiV p) && decide (atoiV p ≤ 9999) && decide (Lib.itoa (atoiV p) = p)) = decide (0 < numB 10 4 p) ∧ (0 < numB 10 4 p → atoiV p = numB 10 4 p) := by
  have key : ∀ u : Nat, 0 < u → u ≤ 9999 → p = Lib.decDigits u → atoiOk p = true ∧ atoiV p = u ∧ Lib.itoa (atoiV p) = p ∧ numB 10 4 p = u := by
    intro u h0 h1 e
    have ha := atoi_digs u (by omega)
    rw [← e] at ha
    have hv : atoiV p = u := by unfold atoiV; rw [ha]
    refine ⟨by unfold atoiOk; rw [ha], hv, ?_, ?_⟩
    · rw [hv, itoa_nat (by omega), Int.toNat_natCast, e]
    · rw [e, ← digs_dec]
      exact numB_digs (by decide) (by decide) (digs_len (by decide) (by decide) (by decide) (by omega))
  by_cases hn : 0 < numB 10 4 p
  · obtain ⟨h1, h2, h3⟩ := numB_sound (b := 10) (most := 4) (l := p) (by decide) (by decide) (by omega)
    obtain ⟨u, hu⟩ : ∃ u : Nat, numB 10 4 p = u := ⟨(numB 10 4 p).toNat, by omega⟩
    rw [hu, Int.toNat_natCast, digs_dec] at h1
    have hlt : u ≤ 9999 := by
      rcases Nat.lt_or_ge u 10000 with h | h
      · omega
      · exfalso
        have h4 : (digs 10 u).length ≤ 4 := by rw [digs_dec, h1]; exact h2
        have := digs_lt 4 u h4
        omega
    obtain ⟨k1, k2, k3, k4⟩ := key u (by omega) hlt h1.symm
    refine ⟨?_, fun _ => by rw [k2, hu]⟩
    rw [k1, k3, k2, hu]
    simp
    omega
  · refine ⟨?_, fun h => absurd h hn⟩
    rw [decide_eq_false hn]
    apply Bool.eq_false_iff.2
    intro h
    simp only [Bool.and_eq_true, decide_eq_true_eq] at h
    obtain ⟨⟨⟨h1, h2⟩, h3⟩, h4⟩ := h
    obtain ⟨u, hu⟩ : ∃ u : Nat, atoiV p = u := ⟨(atoiV p).toNat, by omega⟩
    rw [hu, itoa_nat (by omega), Int.toNat_natCast] at h4
    have := (key u (by omega) (by omega) h4.symm).2.2.2
    omega
/-- Of a sequence [..D. -/
theorem back_mid (m : List UInt8) : backOk (27 :: 91 :: (m ++ [68])) = decide (0 < numB 10 4 m) ∧ (0 < numB 10 4 m → atoiV (backP (27 :: 91 :: (m ++ [68]))) = numB 10 4 m) := by
  have e1 : Lib.hasPrefix (27 :: 91 :: (m ++ [68])) [27, 91] = true := by simp [Lib.hasPrefix, List.isPrefixOf]
  have e2 : Lib.trimPrefix (27 :: 91 :: (m ++ [68])) [27, 91] = m ++ [68] := by unfold Lib.trimPrefix; rw [if_pos e1]; rfl
  have e3 : Lib.hasSuffix (m ++ [68]) [68] = true := by
    unfold Lib.hasSuffix
    rw [List.isSuffixOf_iff_suffix]
    exact List.suffix_append m [68]
  have e4 : backP (27 :: 91 :: (m ++ [68])) = m := by
    unfold backP
    rw [e2]
    unfold Lib.trimSuffix
    rw [if_pos e3]
    simp
  have := num_back m
  unfold backOk
  rw [e1, e2, e3, e4]
  simpa using this
theorem back_other (t : List UInt8) (h : ∀ m, t ≠ 91 :: (m ++ [68])) : backOk (27 :: t) = false := by
  apply Bool.eq_false_iff.2
  intro hb
  unfold backOk at hb
  simp only [Bool.and_eq_true] at hb
  obtain ⟨⟨⟨⟨⟨h1, h2⟩, _⟩, _⟩, _⟩, _⟩ := hb
  have h1' : [27, 91] <+: (27 :: t) := by
    unfold Lib.hasPrefix at h1
    exact List.isPrefixOf_iff_prefix.1 h1
  obtain ⟨r, hr⟩ := h1'
  have hr2 : t = 91 :: r := by
    simp at hr
    exact hr.symm
  have e2 : Lib.trimPrefix (27 :: t) [27, 91] = r := by
    unfold Lib.trimPrefix
    rw [if_pos h1, hr2]
    rfl
  rw [e2] at h2
  unfold Lib.hasSuffix at h2
  rw [List.isSuffixOf_iff_suffix] at h2
  obtain ⟨m, hm⟩ := h2
  exact h m (by rw [hr2, ← hm])
end Go.Proofs.YtmdeehblmkpddaaDoor.Hand

namespace Go.Proofs.YtmdeehblmkpddaaDoor.Hand
open Go.RowKit Go.Proofs.YtmdeehblmkpddaaDoorW.PrintWords Go.Proofs.YtmdeehblmkpddaaDoorW.PrintLast
set_option linter.unusedVariables false
set_option linter.unusedSimpArgs false
theorem cut_same {s : SM} (hr : s.row < s.rows.length) (h : s.rowOf.length ≤ s.col) : s.cut = s := by
  unfold SM.cut
  rw [List.take_of_length_le h]
  have : s.rows.set s.row s.rowOf = s.rows := by
    unfold SM.rowOf
    rw [List.getD_eq_getElem?_getD, List.getElem?_eq_getElem hr]
    exact List.set_getElem_self hr
  rw [this]
/-- A field is written twice. -/
theorem SeeX.field2 {w0 w : World} {g : Nat} {s s' : SM} {vr : Value} {vs : List Value} (h : SeeX w0 w g s vr vs) (k : Nat) (u u' : Value) (hc : ((seeCells s vr).setIfInBounds k u).setIfInBounds k u' = seeCells s' vr) (hr : s'.rows = s.rows) : SeeX w0 ((w.setCell ⟨g, k, none⟩ u).setCell ⟨g, k, none⟩ u') g s' vr vs := by
  have hne : ∀ b, b ≠ g → ((w.setCell ⟨g, k, none⟩ u).setCell ⟨g, k, none⟩ u').heap[b]? = w.heap[b]? := fun b hb => (Below.heap_setCell _ _ u' b hb).trans (Below.heap_setCell w _ u b hb)
  have hsz : w.heap.size ≤ ((w.setCell ⟨g, k, none⟩ u).setCell ⟨g, k, none⟩ u').heap.size := by simp
  refine ⟨blk_put (blk_put h.me k u rfl) k u' hc, h.rs.kept (fun b e => hne b (h.r1 b e).1) hsz, by rw [hr]; exact h.n, fun j v hv => ?_, h.r1, h.r2, h.g0, ?_⟩
  · rw [hr]
    exact (h.inn j v hv).kept (fun b e => hne b (h.r2 j v hv b e).1) hsz
  · have hG : Gr w0 w (fun k => (some g : Option Nat) = some k) := ⟨h.b, fun k e => by obtain rfl := Option.some.inj e; exact h.g0⟩
    have hG1 : Gr w0 (w.setCell ⟨g, k, none⟩ u) (fun k => (some g : Option Nat) = some k) := ⟨(hG.mod (Mod.ofGrown (grown_set w ⟨g, k, none⟩ u) (fun k e => e))).b, fun k e => by obtain rfl := Option.some.inj e; exact h.g0⟩
    exact (hG1.mod (Mod.ofGrown (grown_set _ ⟨g, k, none⟩ u') (fun k e => e))).b
theorem IRow.takeCap {w : World} {b off cap : Nat} {xs : List Value} (h : IRow w (.slice (some ⟨b, off, none⟩) xs.length cap) xs) (n : Nat) (hn : n ≤ xs.length) : IRow w (.slice (some ⟨b, off, none⟩) n cap) (xs.take n) := by
  rcases h with ⟨h, _⟩ | ⟨b', o', c', hv, h1, h2, h3, h4, h5⟩
  · cases h
  · injection hv with e1 e2 e3
    injection e1 with e1
    injection e1 with e1 e4
    subst e1; subst e4; subst e3
    exact .inr ⟨b, off, cap, by rw [List.length_take, Nat.min_eq_left hn], by rw [List.length_take]; omega, h2, h3, range_take h4 n, h5⟩
set_option maxHeartbeats 4000000 in
set_option maxRecDepth 100000 in
theorem seePast (w0 w : World) (g : Nat) (s : SM) (vr : Value) (vs : List Value) (b : Bool) (t : ByteArray) (h : SeeX w0 w g s vr vs) (ht : (b = true ∧ t = ⟨#[91, 63, 50, 48, 48, 52, 104]⟩) ∨ (b = false ∧ t = ⟨#[91, 63, 50, 48, 48, 52, 108]⟩)) :
    Calls Tryd.prog 39 #[.pointer (some ⟨g, 0, none⟩), .string t] w fun e w' => e = .returned (.bool true) ∧ SeeX w0 w' g { s with pastes := b } vr vs := by
  have m4 : w.cell? ⟨g, 4, none⟩ = some (.bool s.pastes) := (blk_cell h.me 4).trans rfl
  have f4 := blk_frozen h.me 4
  have hfin := Aside0.mk (h.field (s' := { s with pastes := b }) 4 (.bool b) rfl rfl)
  clear h
  rcases ht with ⟨rfl, rfl⟩ | ⟨rfl, rfl⟩
  all_goals
    go_enter Tryd.func39, Tryd.ntmps39
    go_wp2_with (fail)
    go_ret
    exact ⟨rfl, hfin.out⟩
set_option maxHeartbeats 4000000 in
set_option maxRecDepth 100000 in
theorem seeCut (w0 w : World) (g : Nat) (s : SM) (vr : Value) (vs : List Value) (n : Nat) (h : SeeX w0 w g s vr vs) (hf : s.Fine n) (hn : n ≤ 1000000) :
    Calls Tryd.prog 39 #[.pointer (some ⟨g, 0, none⟩), .string ⟨#[91, 75]⟩] w fun e w' => e = .returned (.bool true) ∧ ∃ vr' vs', SeeX w0 w' g s.cut vr' vs' := by
  have hrow : s.row < vs.length := by rw [h.n]; exact hf.row
  obtain ⟨br, or_, cr, rfl, hcr, hcm, hbr, hrng, hth⟩ := h.rs.form (by intro e; rw [e] at hrow; simp at hrow)
  have hu := List.getElem?_eq_getElem hrow
  have hin := h.inn s.row (vs[s.row]'hrow) hu
  change IRow w (vs[s.row]'hrow) (s.rowOf.map (.int .i64)) at hin
  have hg2 := h.r2 s.row _ hu
  obtain ⟨A0, cap0, hv0, hc0, hm0⟩ := hin.slice
  rw [List.length_map] at hv0 hc0
  rw [hv0] at hu hin hg2
  have hlen : s.rowOf.length ≤ n := by
    unfold SM.rowOf
    rw [List.getD_eq_getElem?_getD, List.getElem?_eq_getElem hf.row]
    exact hf.len _ (List.getElem_mem hf.row)
  have hcol := hf.col
  have hnA : vs.length ≤ n := by rw [h.n]; exact hf.rows
  have hrI : ((s.row : Int) < (vs.length : Int)) := by omega
  have hr0 : (0 : Int) ≤ (s.row : Int) := by omega
  have F := seeS hu h
  have m0 := F.1
  have m1 := F.2.1
  have m3 := F.2.2.1
  have m2 : w.cell? ⟨g, 2, none⟩ = some (.int .i64 s.col) := (blk_cell h.me 2).trans rfl
  have f3 := seeF hrow h
  have hsame := Aside0.mk (show s.rowOf.length ≤ s.col → s.cut = s from fun hle => cut_same hf.row hle)
  have hcutE := Aside0.mk (show s.cut = { s with rows := s.rows.set s.row (s.rowOf.take s.col) } from rfl)
  have HX := Aside0.mk h
  have HIN := Aside0.mk hin
  have HG := Aside0.mk hg2
  clear hin hv0 hrng hth hm0 h F hf hu hg2
  generalize s.rowOf = l0 at *
  by_cases hgt : s.col < l0.length
  · have hgtI : (s.col : Int) < (l0.length : Int) := by omega
    have hgt0 : decide ((s.col : Int) < (l0.length : Int)) = true := decide_eq_true hgtI
    have hcc : (s.col : Int) ≤ (cap0 : Int) := by omega
    obtain ⟨b, off, cap', hve, h1, h2, h3, h4, h5⟩ := HIN.out.form (by intro e; rw [List.map_eq_nil_iff] at e; rw [e] at hgt; simp at hgt)
    injection hve with e1 e2 e3
    subst e1
    clear e2
    subst e3
    have hI2 : IRow w (.slice (some ⟨b, off, none⟩) s.col cap0) ((l0.take s.col).map (.int .i64)) := by
      have := IRow.takeCap (w := w) (b := b) (off := off) (cap := cap0) (xs := l0.map (Value.int .i64)) (by rw [List.length_map]; exact HIN.out) s.col (by rw [List.length_map]; omega)
      rw [List.map_take]
      exact this
    have hfin := Aside0.mk (show ∀ W : World, Below w.heap.size w W → SeeX w0 (W.setCell ⟨br, or_ + s.row, none⟩ (.slice (some ⟨b, off, none⟩) s.col cap0)) g s.cut (.slice (some ⟨br, or_, none⟩) vs.length cr) (vs.set s.row (.slice (some ⟨b, off, none⟩) s.col cap0)) from fun W hb => by
      rw [hcutE.out]
      exact (HX.out.below hb).close s.row hrow (hI2.below hb) (fun b' e => ⟨(HG.out b' e).1, fun e2 => (HG.out b' e).2 (by rw [e2]; rfl)⟩))
    clear hI2 h1 h2 h3 h4 h5 HG HIN HX hsame hcutE
    go_enter Tryd.func39, Tryd.ntmps39
    go_wp2_with (fail)
    go_quiet (fail)
    have hfin1 := Aside0.mk (hfin.out (w.drewN nq).drew (below_drew1 (pw_below_drewN (Below.refl _ w) nq)))
    have m0' : (w.drewN nq).cell? ⟨g, 0, none⟩ = some (.slice (some ⟨br, or_, none⟩) vs.length cr) := m0
    have m1' : (w.drewN nq).cell? ⟨g, 1, none⟩ = some (.int .i64 s.row) := m1
    have m2' : (w.drewN nq).cell? ⟨g, 2, none⟩ = some (.int .i64 s.col) := m2
    have m3' : (w.drewN nq).cell? ⟨br, or_ + s.row, none⟩ = some (.slice (some ⟨b, off, none⟩) l0.length cap0) := m3
    have f3' : (w.drewN nq).frozen? ⟨br, or_ + s.row, none⟩ = false := f3
    clear hfin m0 m1 m2 m3 f3
    generalize w.drewN nq = W0 at *
    go_wp2_with (fail)
    refine wp_region_still_tail 24 (by kernel_rfl) (by kernel_rfl) ?_
    simp only [List.take_succ_cons, List.take_zero, List.drop_succ_cons, List.drop_zero]
    rw [show ({ W0 with drawn := W0.drawn + 1 } : World) = W0.drew from rfl]
    repeat still_step
    try refine wpStill_nil ?_
    go_wp2_with (fail)
    go_ret
    exact ⟨rfl, _, _, hfin1.out⟩
  · have hgtI : (l0.length : Int) ≤ (s.col : Int) := by omega
    have hgt0 : decide ((s.col : Int) < (l0.length : Int)) = false := decide_eq_false (by omega)
    have hfin := Aside0.mk (show ∀ W : World, Below w.heap.size w W → SeeX w0 W g s.cut (.slice (some ⟨br, or_, none⟩) vs.length cr) vs from fun W hb => by rw [hsame.out (by omega)]; exact HX.out.below hb)
    clear HG HIN HX hsame hcutE
    go_enter Tryd.func39, Tryd.ntmps39
    go_wp2_with (fail)
    go_quiet (fail)
    have hfin1 := Aside0.mk (hfin.out (w.drewN nq) (pw_below_drewN (Below.refl _ w) nq))
    go_wp2_with (fail)
    go_ret
    exact ⟨rfl, _, _, hfin1.out⟩
theorem numB_small (m : List UInt8) (h : 0 < numB 10 4 m) : numB 10 4 m ≤ 9999 := by
  have h1 := num_back m
  rw [decide_eq_true h] at h1
  simp only [Bool.and_eq_true, decide_eq_true_eq] at h1
  have := h1.2 h
  omega
theorem mid_form {L : List UInt8} (h : 2 < L.length) (h0 : L[0]? = some 91) (h1 : L[L.length - 1]? = some 68) : ∃ m, L = 91 :: (m ++ [68]) := by
  cases L with
  | nil => simp at h
  | cons a r =>
    have h0 := Option.some.inj h0
    subst h0
    have hr : r ≠ [] := by intro e; subst e; simp at h
    refine ⟨r.dropLast, ?_⟩
    have hl := List.dropLast_concat_getLast hr
    have : r.getLast hr = 68 := by
      rw [List.length_cons, Nat.add_sub_cancel, List.getElem?_cons] at h1
      rw [if_neg (by have := List.length_pos_iff.2 hr; omega)] at h1
      rw [List.getLast_eq_getElem]
      rw [List.getElem?_eq_getElem (by have := List.length_pos_iff.2 hr; omega)] at h1
      exact Option.some.inj h1
    rw [this] at hl
    rw [hl]
theorem ba_at (t : ByteArray) (i : Nat) (h : i < t.size) : t.data.toList[i]? = some (t[i]'h) := by
  rw [List.getElem?_eq_getElem (by simpa using h)]
  rfl
set_option maxHeartbeats 4000000 in
set_option maxRecDepth 100000 in
theorem seeBack (w0 w : World) (g : Nat) (s : SM) (vr : Value) (vs : List Value) (n : Nat) (t : ByteArray) (h : SeeX w0 w g s vr vs) (hf : s.Fine n) (hn : n ≤ 1000000) (ht : t.size ≤ 100000) (h1 : t ≠ ⟨#[91, 75]⟩) (h2 : t ≠ ⟨#[91, 63, 50, 48, 48, 52, 104]⟩) (h3 : t ≠ ⟨#[91, 63, 50, 48, 48, 52, 108]⟩) :
    Calls Tryd.prog 39 #[.pointer (some ⟨g, 0, none⟩), .string t] w fun e w' => e = .returned (.bool (backOk (27 :: t.data.toList))) ∧ SeeX w0 w' g (if backOk (27 :: t.data.toList) = true then { s with col := s.col - (atoiV (backP (27 :: t.data.toList))).toNat } else s) vr vs := by
  have hcol := hf.col
  have q1 := seq_eq_other (l := [91, 75]) h1
  have q2 := seq_eq_other (l := [91, 63, 50, 48, 48, 52, 104]) h2
  have q3 := seq_eq_other (l := [91, 63, 50, 48, 48, 52, 108]) h3
  clear h1 h2 h3
  have HX := Aside0.mk h
  clear h hf
  by_cases c1 : 2 < t.size
  · have c1I : (2 : Int) < (t.size : Int) := by omega
    have hp0 : 0 < t.size := by omega
    have hpl : t.size - 1 < t.size := by omega
    have c1w : IntKind.i64.wrap ((t.size : Int) - 1) = (t.size : Int) - 1 := by unfold IntKind.wrap; simp [IntKind.bits]; omega
    by_cases c2 : t[0] = 91
    · have e0 : ((t[0]'hp0).toNat : Int) = 91 := by rw [c2]; rfl
      by_cases c3 : t[t.size - 1] = 68
      · have e1 : ((t[t.size - 1]'hpl).toNat : Int) = 68 := by rw [c3]; rfl
        obtain ⟨m, hm⟩ := mid_form (L := t.data.toList) (by simpa using c1) (by rw [ba_at t 0 hp0, c2]) (by
          have := ba_at t (t.size - 1) hpl
          rw [c3] at this
          simpa using this)
        have hb := back_mid m
        rw [hm]
        have hx : (t.extract 1 (t.size - 1)).data.toList = m := by
          have hl : t.size = m.length + 2 := by
            have := congrArg List.length hm
            simpa using this
          rw [Lib.extract_data, hm, hl]
          simp
        have hN0 := num_eq (t.extract 1 (t.size - 1)) 10 4 4 (by decide) (by decide) (by decide) (by decide) (by decide)
        rw [hx] at hN0
        have hN := Aside0.mk hN0
        have hsm := Aside0.mk (numB_small m)
        clear hN0 hx hm
        generalize numB 10 4 m = N at *
        by_cases hpos : 0 < N
        · have hB : backOk (27 :: 91 :: (m ++ [68])) = true := by rw [hb.1]; exact decide_eq_true hpos
          have hV := hb.2 hpos
          have hbig := hsm.out hpos
          rw [hB, if_pos rfl, hV]
          have hw : IntKind.i64.wrap ((s.col : Int) - N) = (s.col : Int) - N := by unfold IntKind.wrap; simp [IntKind.bits, show IntKind.i64.signed = true from rfl]; omega
          clear hB hV hb hsm
          by_cases hle : N ≤ s.col
          · have hneg : 0 ≤ (s.col : Int) - N := by omega
            go_enter Tryd.func39, Tryd.ntmps39
            go_wp2_with (fail)
            refine (PNumber.whispererref06_Number.calls 7 _ 10 4 _ w hN.out).mono ?_
            rintro e w1 ⟨rfl, hb1⟩
            have hbw : Below w.heap.size w w1 := by
              obtain ⟨q, rfl⟩ := hb1
              exact pw_below_drewN (Below.refl _ w) q
            have X1 := Aside0.mk (HX.out.below hbw)
            clear hN hb1 hbw HX c1 c2 c3 e0 e1
            have m2 : w1.cell? ⟨g, 2, none⟩ = some (.int .i64 s.col) := (blk_cell X1.out.me 2).trans rfl
            have f2 := blk_frozen X1.out.me 2
            have hE := Aside0.mk (X1.out.field (s' := { s with col := s.col - N.toNat }) 2 (.int .i64 ((s.col : Int) - N)) (by
              rw [show (s.col : Int) - N = ((s.col - N.toNat : Nat) : Int) by omega]
              rfl) rfl)
            clear X1
            go_wp2_with (fail)
            go_ret
            exact ⟨rfl, hE.out⟩
          · have hneg : (s.col : Int) - N < 0 := by omega
            go_enter Tryd.func39, Tryd.ntmps39
            go_wp2_with (fail)
            refine (PNumber.whispererref06_Number.calls 7 _ 10 4 _ w hN.out).mono ?_
            rintro e w1 ⟨rfl, hb1⟩
            have hbw : Below w.heap.size w w1 := by
              obtain ⟨q, rfl⟩ := hb1
              exact pw_below_drewN (Below.refl _ w) q
            have X1 := Aside0.mk (HX.out.below hbw)
            clear hN hb1 hbw HX c1 c2 c3 e0 e1
            have m2 : w1.cell? ⟨g, 2, none⟩ = some (.int .i64 s.col) := (blk_cell X1.out.me 2).trans rfl
            have f2 := blk_frozen X1.out.me 2
            have hE := Aside0.mk (X1.out.field2 (s' := { s with col := s.col - N.toNat }) 2 (.int .i64 ((s.col : Int) - N)) (.int .i64 0) (by
              have : s.col - N.toNat = 0 := by omega
              rw [this]
              rfl) rfl)
            clear X1
            go_wp2_with (fail)
            go_ret
            exact ⟨rfl, hE.out⟩
        · have hB : backOk (27 :: 91 :: (m ++ [68])) = false := by rw [hb.1]; exact decide_eq_false hpos
          have hneg : N ≤ 0 := by omega
          rw [hB]
          clear hB hb hsm
          go_enter Tryd.func39, Tryd.ntmps39
          go_wp2_with (fail)
          refine (PNumber.whispererref06_Number.calls 7 _ 10 4 _ w hN.out).mono ?_
          rintro e w1 ⟨rfl, hb1⟩
          have hbw : Below w.heap.size w w1 := by
            obtain ⟨q, rfl⟩ := hb1
            exact pw_below_drewN (Below.refl _ w) q
          have X1 := Aside0.mk (HX.out.below hbw)
          clear hN hb1 hbw HX c1 c2 c3 e0 e1
          go_wp2_with (fail)
          go_ret
          exact ⟨rfl, X1.out⟩
      · have e1 : (((t[t.size - 1]'hpl).toNat : Int) == 68) = false := by
          have : (t[t.size - 1]'hpl).toNat ≠ 68 := fun e => c3 (UInt8.toNat_inj.1 e)
          simp
          omega
        have hB := back_other t.data.toList (by
          intro m hm
          have := ba_at t (t.size - 1) hpl
          have hl : t.size = (m ++ [68]).length + 1 := by
            have := congrArg List.length hm
            simpa using this
          rw [hm] at this
          simp only [hl] at this
          simp at this
          exact c3 (by simpa [hl] using this.symm))
        rw [hB]
        clear hB
        go_enter Tryd.func39, Tryd.ntmps39
        go_wp2_with (fail)
        go_ret
        exact ⟨rfl, HX.out⟩
    · have e0 : (((t[0]'hp0).toNat : Int) == 91) = false := by
        have : (t[0]'hp0).toNat ≠ 91 := fun e => c2 (UInt8.toNat_inj.1 e)
        simp
        omega
      have hB := back_other t.data.toList (by
        intro m hm
        have := ba_at t 0 hp0
        rw [hm] at this
        exact c2 (Option.some.inj this).symm)
      rw [hB]
      clear hB
      go_enter Tryd.func39, Tryd.ntmps39
      go_wp2_with (fail)
      go_ret
      exact ⟨rfl, HX.out⟩
  · have c1I : (t.size : Int) ≤ 2 := by omega
    have hB : backOk (27 :: t.data.toList) = false := by
      by_cases hex : ∃ m, t.data.toList = 91 :: (m ++ [68])
      · obtain ⟨m, hm⟩ := hex
        have hl : t.size = (m ++ [68]).length + 1 := by
          have := congrArg List.length hm
          simpa using this
        have : m = [] := by
          rw [List.length_append] at hl
          exact List.eq_nil_of_length_eq_zero (by simp only [List.length_cons, List.length_nil] at hl; omega)
        subst this
        rw [hm, (back_mid []).1]
        rfl
      · exact back_other _ (fun m hm => hex ⟨m, hm⟩)
    rw [hB]
    clear hB
    go_enter Tryd.func39, Tryd.ntmps39
    go_wp2_with (fail)
    go_ret
    exact ⟨rfl, HX.out⟩
end Go.Proofs.YtmdeehblmkpddaaDoor.Hand
