/- A slice of the call's own, wherever it begins in its block: append, cut at either end, read, write. -/
import Derived.Test.YtmdeehblmkpddaaDoorWMore
import Derived.Deep.AppendSrc
import Derived.Deep.Upon
import Derived.Deep.MidRow
import Derived.Laws.AppendOwn
import Derived.Test.YtmdeehblmkpddaaDoorHandPlain
import Derived.Test.YtmdeehblmkpddaaDoorProg
import Derived.Deep.QuietTactic
import Derived.BigQuiet
import Derived.StillTailTactics
import Derived.LoopTactic
import Derived.Outline
import Derived.Test.YtmdeehblmkpddaaDoorHandShelf
import Derived.Lib.SmallJoins
import Derived.Lib.AppendIntMem
import Derived.Lib.AtoiErrMem
import Derived.Test.YtmdeehblmkpddaaDoorHandChar
namespace Go.Proofs.YtmdeehblmkpddaaDoor.Hand
open Go.RowKit Go.Proofs.YtmdeehblmkpddaaDoorW.PrintWords Go.Proofs.YtmdeehblmkpddaaDoorW.PrintLast
set_option linter.unusedVariables false
set_option linter.unusedSimpArgs false

/-- v is a slice of the elements xs (one cell each), all its room may be written. -/
def IRow (w : World) (v : Value) (xs : List Value) : Prop :=
  (v = .slice none 0 0 ∧ xs = []) ∨ ∃ b off cap, v = .slice (some ⟨b, off, none⟩) xs.length cap ∧ xs.length ≤ cap ∧ cap ≤ maxLen ∧ b < w.heap.size ∧ w.rangeAt b off xs ∧ w.there b off cap
theorem IRow.kept {w W : World} {v : Value} {xs : List Value} (h : IRow w v xs) (hb : ∀ b, v.ownBlock = some b → W.heap[b]? = w.heap[b]?) (hs : w.heap.size ≤ W.heap.size) : IRow W v xs := by
  rcases h with h | ⟨b, off, cap, rfl, h1, h2, h3, h4, h5⟩
  · exact .inl h
  · have e := hb b rfl
    refine .inr ⟨b, off, cap, rfl, h1, h2, by omega, fun j u hj => ?_, fun j hj => ?_⟩
    · rw [World.cell?_of_block (w := w) (w' := W) (a := ⟨b, off + j, none⟩) e]; exact h4 j u hj
    · rw [World.cell?_of_block (w := w) (w' := W) (a := ⟨b, off + j, none⟩) e, World.frozen?_of_block (w := w) (w' := W) (a := ⟨b, off + j, none⟩) e]; exact h5 j hj
theorem IRow.below {w W : World} {v : Value} {xs : List Value} (h : IRow w v xs) (hb : Below w.heap.size w W) : IRow W v xs := by
  refine h.kept (fun b e => ?_) hb.size
  rcases h with ⟨rfl, _⟩ | ⟨b', off, cap, rfl, h1, h2, h3, h4, h5⟩
  · cases e
  · obtain rfl := Option.some.inj e
    exact hb.block _ h3
theorem IRow.lt {w : World} {v : Value} {xs : List Value} (h : IRow w v xs) : ∀ b, v.ownBlock = some b → b < w.heap.size := by
  intro b e
  rcases h with ⟨rfl, _⟩ | ⟨b', off, cap, rfl, h1, h2, h3, h4, h5⟩
  · cases e
  · obtain rfl := Option.some.inj e
    exact h3
/-- Its shape, where it is not empty. -/
theorem IRow.form {w : World} {v : Value} {xs : List Value} (h : IRow w v xs) (h0 : xs ≠ []) : ∃ b off cap, v = .slice (some ⟨b, off, none⟩) xs.length cap ∧ xs.length ≤ cap ∧ cap ≤ maxLen ∧ b < w.heap.size ∧ w.rangeAt b off xs ∧ w.there b off cap := by
  rcases h with ⟨_, e⟩ | h
  · exact absurd e h0
  · exact h
/-- Its value, whatever it is. -/
theorem IRow.slice {w : World} {v : Value} {xs : List Value} (h : IRow w v xs) : ∃ A cap, v = .slice A xs.length cap ∧ xs.length ≤ cap ∧ cap ≤ maxLen := by
  rcases h with ⟨rfl, rfl⟩ | ⟨b, off, cap, rfl, h1, h2, _⟩
  · exact ⟨none, 0, rfl, Nat.le_refl _, Nat.zero_le _⟩
  · exact ⟨_, cap, rfl, h1, h2⟩
theorem there_lt {w : World} {b o n : Nat} (h : w.there b o n) (h0 : 0 < n) : b < w.heap.size := by
  have := (h 0 h0).1
  obtain ⟨u, hu⟩ := Option.isSome_iff_exists.mp this
  exact World.block_lt_of_cell? _ _ hu
theorem there_sub {w : World} {b o n : Nat} (h : w.there b o n) {o' n' : Nat} (h1 : o ≤ o') (h2 : o' + n' ≤ o + n) : w.there b o' n' := by
  intro j hj
  have := h (o' - o + j) (by omega)
  rw [show o + (o' - o + j) = o' + j by omega] at this
  exact this
theorem range_drop {w : World} {b o : Nat} {xs : List Value} (h : w.rangeAt b o xs) (n : Nat) : w.rangeAt b (o + n) (xs.drop n) := by
  intro j v hj
  rw [List.getElem?_drop] at hj
  have := h (n + j) v hj
  rw [show o + (n + j) = o + n + j by omega] at this
  exact this
theorem range_take {w : World} {b o : Nat} {xs : List Value} (h : w.rangeAt b o xs) (n : Nat) : w.rangeAt b o (xs.take n) := by
  intro j v hj
  rw [List.getElem?_take] at hj
  split at hj
  · exact h j v hj
  · cases hj
theorem setCells_size (b : Nat) : ∀ (vs : List Value) (o : Nat) (w : World), (w.setCells b o vs).heap.size = w.heap.size
  | [], _, _ => rfl
  | v :: r, o, w => by
    unfold World.setCells
    rw [setCells_size b r]
    simp
theorem setCells_block (b : Nat) : ∀ (vs : List Value) (o : Nat) (w : World) (k : Nat), k ≠ b → (w.setCells b o vs).heap[k]? = w.heap[k]?
  | [], _, _, _, _ => rfl
  | v :: r, o, w, k, h => by
    unfold World.setCells
    rw [setCells_block b r _ _ k h]
    exact Below.heap_setCell w _ _ k h
theorem setCells_os (b : Nat) : ∀ (vs : List Value) (o : Nat) (w : World), (w.setCells b o vs).os = w.os ∧ (w.setCells b o vs).tape = w.tape ∧ (w.setCells b o vs).output = w.output
  | [], _, _ => ⟨rfl, rfl, rfl⟩
  | v :: r, o, w => by
    unfold World.setCells
    obtain ⟨h1, h2, h3⟩ := setCells_os b r (o + 1) (w.setCell ⟨b, o, none⟩ v)
    have hk : Below 0 w (w.setCell ⟨b, o, none⟩ v) := (Below.refl 0 w).setCell (Nat.zero_le _) v
    exact ⟨h1.trans hk.os, h2.trans hk.tape, h3.trans hk.output⟩
theorem range_app {w : World} {b o : Nat} {xs ys : List Value} (h1 : w.rangeAt b o xs) (h2 : w.rangeAt b (o + xs.length) ys) : w.rangeAt b o (xs ++ ys) := by
  intro j v hj
  by_cases h : j < xs.length
  · rw [List.getElem?_append_left h] at hj
    exact h1 j v hj
  · rw [List.getElem?_append_right (by omega)] at hj
    have := h2 _ v hj
    rw [show o + xs.length + (j - xs.length) = o + j by omega] at this
    exact this
section
variable {P : Program}
theorem run_append_irow (w : World) (t tx ty e : TypeId) (i : TypeInfo) (z : Value) (bytes : Nat) (ht : P.underlying t = some (.slice e)) (hi : P.info? e = some i) (hz : i.zero = some z) (hsize : i.size = 1) (hby : i.bytes = bytes) (hzs : z.cells.size = 1)
    {v : Value} {xs : List Value} (h : IRow w v xs) (x : Value) (m : Nat) (news : List Value) (hs : Src P 1 tx x m news w) (h63 : xs.length + m ≤ maxLen) (hbytes : (xs.length + m) * bytes ≤ 140737488355328) :
    ∃ v' w', (Builtin.append_ #[t, tx] ty #[v, x]).run P w = .ok v' w' ∧ IRow w' v' (xs ++ news) ∧ w.grownBy w' v.ownBlock ∧ (v'.ownBlock = v.ownBlock ∨ v'.ownBlock = some w.heap.size) := by
  subst hby
  have hs' : Src P i.size tx x m news w := by rw [hsize]; exact hs
  have hnl : news.length = m := by have := hs.newsLen; omega
  have grow : ∀ (base : Option Addr) (sCap : Nat) (olds : List Value), olds = xs → (Builtin.firstCells i.size xs.length (.slice base xs.length sCap)).run P w.drew = .ok olds.toArray w.drew → v = .slice base xs.length sCap → sCap < xs.length + m →
      ∃ v' w', (Builtin.append_ #[t, tx] ty #[v, x]).run P w = .ok v' w' ∧ IRow w' v' (xs ++ news) ∧ w.grownBy w' v.ownBlock ∧ (v'.ownBlock = v.ownBlock ∨ v'.ownBlock = some w.heap.size) := by
    intro base sCap olds ho hold hv hg
    subst ho
    subst hv
    have hrun := run_append_grow_src (P := P) w t tx ty e i z ht hi hz base olds.length sCap olds hold x m news hs' hg (by unfold maxLen at h63; omega) (growslice_fits hg hbytes)
    have hge := grownCap_ge w (olds.length + m) sCap e
    have hle := grownCap_le_maxLen w (olds.length + m) sCap e h63
    refine ⟨_, _, hrun, .inr ⟨w.heap.size, 0, grownCap w (olds.length + m) sCap e, ?_, ?_, hle, ?_, ?_, ?_⟩, ?_, .inr rfl⟩
    · rw [List.length_append, hnl]
    · rw [List.length_append, hnl]; exact hge
    · simp
    · have hb : ∀ C : Array Value, (w.drew.alloc (.cells C e)).heap[w.heap.size]? = some (.cells C e (0, 0)) := fun C => heap_alloc_new w.drew (.cells C e)
      intro j u hj
      rw [cell_of_row _ w.heap.size (0 + j) _ e (0, 0) (hb _), Nat.zero_add, Array.getElem?_append_left (by
        have := (List.getElem?_eq_some_iff.mp hj).1
        simpa using this)]
      simpa using hj
    · have hb : ∀ C : Array Value, (w.drew.alloc (.cells C e)).heap[w.heap.size]? = some (.cells C e (0, 0)) := fun C => heap_alloc_new w.drew (.cells C e)
      intro j hj
      refine ⟨?_, blk_frozen (hb _) _⟩
      rw [cell_of_row _ w.heap.size (0 + j) _ e (0, 0) (hb _), Nat.zero_add]
      rw [Array.getElem?_eq_getElem (by
        rw [Array.size_append, size_zeroCells, hzs]
        simp only [List.size_toArray, List.length_append, hnl]
        omega)]
      rfl
    · have hk := ((Below.refl w.heap.size w).drew).alloc (Nat.le_refl _) (.cells ((olds ++ news).toArray ++ Builtin.zeroCells z.cells (grownCap w (olds.length + m) sCap e - (olds.length + m))) e)
      exact ⟨hk.os, hk.tape, hk.output, hk.size, fun k hk' _ => hk.block k hk'⟩
  rcases h with ⟨rfl, rfl⟩ | ⟨b, off, cap, hv, h1, h2, h3, h4, h5⟩
  · by_cases hm : m = 0
    · subst hm
      have hnil : news = [] := List.eq_nil_of_length_eq_zero hnl
      subst hnil
      refine ⟨_, w, run_append_nothing (P := P) w t tx ty e i ht hi none 0 0 (Nat.le_refl _) x hs', .inl ⟨rfl, rfl⟩, ?_, .inl rfl⟩
      exact ⟨rfl, rfl, rfl, Nat.le_refl _, fun _ _ _ => rfl⟩
    · refine grow none 0 [] rfl ?_ rfl (by simp; omega)
      rw [run_firstCells_none]
  · by_cases hroom : xs.length + m ≤ cap
    · subst hv
      have ht2 : w.there b (off + xs.length) news.length := there_sub h5 (by omega) (by omega)
      have hrun := run_append_room_src (P := P) w t tx ty e i ht hi b off xs.length cap x m news hs' hroom (by rw [hsize, Nat.mul_one]; exact fun j hj => (ht2 j hj).1) (by rw [hsize, Nat.mul_one]; exact fun j hj => (ht2 j hj).2)
      rw [hsize, Nat.mul_one] at hrun
      have hx := World.rangeAt_setCells_same w b (off + xs.length) news ht2
      have hold := World.rangeAt_setCells_apart h4 b (off + xs.length) news (.inr (.inl (Nat.le_refl _)))
      obtain ⟨o1, o2, o3⟩ := setCells_os b news (off + xs.length) w
      refine ⟨_, _, hrun, .inr ⟨b, off, cap, by rw [List.length_append, hnl], by rw [List.length_append, hnl]; exact hroom, h2, ?_, range_app hold hx, World.there_setCells h5 b _ news⟩, ?_, .inl rfl⟩
      · rw [setCells_size]; exact h3
      · refine ⟨o1, o2, o3, by rw [setCells_size]; exact Nat.le_refl _, fun k _ hk => ?_⟩
        exact setCells_block b news _ w k (fun e => hk (by rw [e]; rfl))
    · refine grow (some ⟨b, off, none⟩) cap xs rfl ?_ hv (by omega)
      rw [hsize]
      refine run_firstCells_some (P := P) w.drew 1 xs.length ⟨b, off, none⟩ xs.length cap xs (by omega) (fun j u hj => ?_)
      rw [Addr.add_mid]
      simpa using h4 j u hj
theorem wpList_append_irow (w : World) {ops : Array Oper} {rest : List Oper} {o : Oper} {a : Act} {Q : Exit → Act → World → Prop} (hgd : o.guard = none) (s x : Operand) (t tx : TypeId)
    (ho : o.op = .call { callee := .builtin .append, args := #[s, x], argTypes := #[t, tx] }) (e : TypeId) (i : TypeInfo) (z : Value) (bytes : Nat) (ht : P.underlying t = some (.slice e)) (hi : P.info? e = some i) (hz : i.zero = some z) (hsize : i.size = 1) (hby : i.bytes = bytes) (hzs : z.cells.size = 1)
    {v : Value} {xs : List Value} (hv : a.eval s = v) (h : IRow w v xs) {y : Value} (hx : a.eval x = y) (m : Nat) (news : List Value) (hs : Src P 1 tx y m news w) (h63 : xs.length + m ≤ maxLen) (hbytes : (xs.length + m) * bytes ≤ 140737488355328)
    (hK : ∀ v' w', IRow w' v' (xs ++ news) → w.grownBy w' v.ownBlock → (v'.ownBlock = v.ownBlock ∨ v'.ownBlock = some w.heap.size) → wpList P ops Q rest (a.put o.dst v') w') : wpList P ops Q (o :: rest) a w := by
  refine wpList_plain hgd fun K hK' => ?_
  obtain ⟨v', w', hrun, r1, r2, r3⟩ := run_append_irow (P := P) w t tx o.type e i z bytes ht hi hz hsize hby hzs h y m news hs h63 hbytes
  unfold Oper.wp
  simp [execOp, ho, resolve, invoke, builtin, hv, hx, hrun, Result.andThen]
  exact hK' _ _ (hK v' w' r1 r2 r3)
end
/-- Cut off in front. -/
theorem IRow.drop {w : World} {b off cap : Nat} {xs : List Value} (h : IRow w (.slice (some ⟨b, off, none⟩) xs.length cap) xs) (hb : b < w.heap.size) (n : Nat) (hn : n ≤ xs.length) (off' : Nat) (ho : off' = off + n ∨ cap - n = 0) : IRow w (.slice (some ⟨b, off', none⟩) (xs.length - n) (cap - n)) (xs.drop n) := by
  rcases h with ⟨h, _⟩ | ⟨b', o', c', hv, h1, h2, h3, h4, h5⟩
  · cases h
  · injection hv with e1 e2 e3
    injection e1 with e1
    injection e1 with e1 e4
    subst e1; subst e4; subst e3
    refine .inr ⟨b, off', cap - n, by rw [List.length_drop], by rw [List.length_drop]; omega, by omega, h3, ?_, ?_⟩
    · rcases ho with rfl | h0
      · exact range_drop h4 n
      · have : xs.drop n = [] := List.drop_of_length_le (by omega)
        rw [this]
        intro j v hj
        cases hj
    · rcases ho with rfl | h0
      · exact there_sub h5 (by omega) (by omega)
      · rw [h0]
        intro j hj; omega
/-- Cut off behind, its room too. -/
theorem IRow.take {w : World} {b off cap : Nat} {xs : List Value} (h : IRow w (.slice (some ⟨b, off, none⟩) xs.length cap) xs) (n : Nat) (hn : n ≤ xs.length) : IRow w (.slice (some ⟨b, off, none⟩) n n) (xs.take n) := by
  rcases h with ⟨h, _⟩ | ⟨b', o', c', hv, h1, h2, h3, h4, h5⟩
  · cases h
  · injection hv with e1 e2 e3
    injection e1 with e1
    injection e1 with e1 e4
    subst e1; subst e4; subst e3
    exact .inr ⟨b, off, n, by rw [List.length_take, Nat.min_eq_left hn], by rw [List.length_take]; omega, by omega, h3, range_take h4 n, there_sub h5 (by omega) (by omega)⟩
/-- An element written. -/
theorem IRow.put {w : World} {b off cap : Nat} {xs : List Value} (h : IRow w (.slice (some ⟨b, off, none⟩) xs.length cap) xs) (j : Nat) (hj : j < xs.length) (u : Value) : IRow (w.setCell ⟨b, off + j, none⟩ u) (.slice (some ⟨b, off, none⟩) xs.length cap) (xs.set j u) := by
  rcases h with ⟨h, _⟩ | ⟨b', o', c', hv, h1, h2, h3, h4, h5⟩
  · cases h
  · injection hv with e1 e2 e3
    injection e1 with e1
    injection e1 with e1 e4
    subst e1; subst e4; subst e3
    refine .inr ⟨b, off, cap, by rw [List.length_set], by rw [List.length_set]; exact h1, h2, by simpa using h3, fun q v hq => ?_, fun q hq => ?_⟩
    · rw [List.getElem?_set] at hq
      have hlt : j < cap := by omega
      split at hq
      · rename_i e
        subst e
        obtain rfl := Option.some.inj hq
        exact World.cell?_setCell_same' _ _ _ (h5 j hlt).1
      · rename_i e
        have ha : (⟨b, off + j, none⟩ : Addr) ≠ ⟨b, off + q, none⟩ := by intro e2; apply e; injection e2 with _ e3; omega
        rw [World.cell?_setCell_other (h := ha)]
        exact h4 q v hq
    · have := World.there_setCells h5 b (off + j) [u]
      exact this q hq
end Go.Proofs.YtmdeehblmkpddaaDoor.Hand

namespace Go.Proofs.YtmdeehblmkpddaaDoor.Hand
open Go.RowKit Go.Proofs.YtmdeehblmkpddaaDoorW.PrintWords Go.Proofs.YtmdeehblmkpddaaDoorW.PrintLast
set_option linter.unusedVariables false
set_option linter.unusedSimpArgs false

/-- What a screen holds. -/
structure SM where
  rows : List (List Int)
  row : Nat
  col : Nat
  wait : List Int
  bells : Nat
  pastes : Bool
  odd : Nat
def SM.fresh : SM := ⟨[[]], 0, 0, [], 0, false, 0⟩
def SM.rowOf (s : SM) : List Int := s.rows.getD s.row []
/-- All counts are at most n, and the place's row is there. -/
structure SM.Fine (s : SM) (n : Nat) : Prop where
  rows : s.rows.length ≤ n
  row : s.row < s.rows.length
  col : s.col ≤ n
  len : ∀ l ∈ s.rows, l.length ≤ n
  wait : s.wait.length ≤ n
  bells : s.bells ≤ n
  odd : s.odd ≤ n
  runes : ∀ l ∈ s.rows, ∀ c ∈ l, 0 ≤ c ∧ c ≤ 1114111
  bytes : ∀ x ∈ s.wait, 0 ≤ x ∧ x ≤ 255

def scrCells (s : SM) (vr vw : Value) : Array Value := #[vr, .int .i64 s.row, .int .i64 s.col, vw, .int .i64 s.bells, .bool s.pastes, .int .i64 s.odd]
/-- A screen's parts: who tells of each of its blocks what it is (0: itself; 1: the rows; 2: what waits; 3 + i: row i). -/
structure ScrX (gap : Option Nat) (w : World) (g : Nat) (s : SM) (vr vw : Value) (vs : List Value) (who : Nat → Nat) (F : Nat → Prop) : Prop where
  me : w.heap[g]? = some (.cells (scrCells s vr vw) 63 (0, 0))
  rs : IRow w vr vs
  n : vs.length = s.rows.length
  inn : ∀ i, some i ≠ gap → ∀ v, vs[i]? = some v → IRow w v ((s.rows.getD i []).map (.int .i32))
  wt : IRow w vw (s.wait.map (.int .u8))
  g0 : who g = 0
  g1 : ∀ b, vr.ownBlock = some b → who b = 1 ∧ F b
  g2 : ∀ b, vw.ownBlock = some b → who b = 2 ∧ F b
  g3 : ∀ i, some i ≠ gap → ∀ v, vs[i]? = some v → ∀ b, v.ownBlock = some b → who b = 3 + i ∧ F b
  fg : F g
  lt : ∀ b, F b → b < w.heap.size
def Scr (w : World) (g : Nat) (s : SM) (F : Nat → Prop) : Prop := ∃ vr vw vs who, ScrX none w g s vr vw vs who F
/-- Nothing but the blocks of F, and new ones, turned. -/
structure Mod (F : Nat → Prop) (w W : World) : Prop where
  os : W.os = w.os
  tape : W.tape = w.tape
  output : W.output = w.output
  size : w.heap.size ≤ W.heap.size
  block : ∀ k, k < w.heap.size → ¬ F k → W.heap[k]? = w.heap[k]?
theorem Mod.refl (F : Nat → Prop) (w : World) : Mod F w w := ⟨rfl, rfl, rfl, Nat.le_refl _, fun _ _ _ => rfl⟩
theorem Mod.ofBelow {F : Nat → Prop} {w W : World} (h : Below w.heap.size w W) : Mod F w W := ⟨h.os, h.tape, h.output, h.size, fun k hk _ => h.block k hk⟩
theorem Mod.ofGrown {F : Nat → Prop} {w W : World} {r : Option Nat} (h : w.grownBy W r) (hr : ∀ b, r = some b → F b) : Mod F w W :=
  ⟨h.os, h.tape, h.output, h.size, fun k hk hf => h.block k hk (fun e => hf (hr k e.symm))⟩
theorem Mod.ofSet {F : Nat → Prop} (w : World) (g i : Nat) (v : Value) (hg : F g) : Mod F w (w.setCell ⟨g, i, none⟩ v) := by
  have hk : Below 0 w (w.setCell ⟨g, i, none⟩ v) := (Below.refl 0 w).setCell (Nat.zero_le _) v
  exact ⟨hk.os, hk.tape, hk.output, hk.size, fun k _ hf => Below.heap_setCell w _ v k (fun e => hf (by rw [show k = g from e]; exact hg))⟩
theorem Mod.trans {F F' : Nat → Prop} {w W U : World} (h : Mod F w W) (h' : Mod F' W U) (hF : ∀ k, k < w.heap.size → F' k → F k) : Mod F w U :=
  ⟨h'.os.trans h.os, h'.tape.trans h.tape, h'.output.trans h.output, Nat.le_trans h.size h'.size, fun k hk hf => (h'.block k (Nat.lt_of_lt_of_le hk h.size) (fun e => hf (hF k hk e))).trans (h.block k hk hf)⟩
/-- F and what is new in W. -/
def Fnew (F : Nat → Prop) (w W : World) (k : Nat) : Prop := F k ∨ (w.heap.size ≤ k ∧ k < W.heap.size)
theorem Mod.mono {F F' : Nat → Prop} {w W : World} (h : Mod F w W) (hF : ∀ k, k < w.heap.size → F k → F' k) : Mod F' w W :=
  ⟨h.os, h.tape, h.output, h.size, fun k hk hf => h.block k hk (fun e => hf (hF k hk e))⟩

/-- The blocks other than row i's stay. -/
theorem ScrX.keep {i : Nat} {w W : World} {g : Nat} {s : SM} {vr vw : Value} {vs : List Value} {who : Nat → Nat} {F : Nat → Prop} (h : ScrX (some i) w g s vr vw vs who F)
    (hb : ∀ b, F b → who b ≠ 3 + i → W.heap[b]? = w.heap[b]?) (hs : w.heap.size ≤ W.heap.size) : ScrX (some i) W g s vr vw vs who F := by
  refine ⟨(hb g h.fg (by rw [h.g0]; omega)).trans h.me, h.rs.kept (fun b e => ?_) hs, h.n, fun j hj v hv => (h.inn j hj v hv).kept (fun b e => ?_) hs, h.wt.kept (fun b e => ?_) hs, h.g0, h.g1, h.g2, h.g3, h.fg, fun b hf => Nat.lt_of_lt_of_le (h.lt b hf) hs⟩
  · obtain ⟨h1, h2⟩ := h.g1 b e; exact hb b h2 (by rw [h1]; omega)
  · obtain ⟨h1, h2⟩ := h.g3 j hj v hv b e
    exact hb b h2 (by rw [h1]; intro e2; exact hj (by congr 1; omega))
  · obtain ⟨h1, h2⟩ := h.g2 b e; exact hb b h2 (by rw [h1]; omega)
theorem ScrX.below {gap : Option Nat} {w W : World} {g : Nat} {s : SM} {vr vw : Value} {vs : List Value} {who : Nat → Nat} {F : Nat → Prop} (h : ScrX gap w g s vr vw vs who F)
    (hb : ∀ b, F b → W.heap[b]? = w.heap[b]?) (hs : w.heap.size ≤ W.heap.size) : ScrX gap W g s vr vw vs who F :=
  ⟨(hb g h.fg).trans h.me, h.rs.kept (fun b e => hb b (h.g1 b e).2) hs, h.n, fun j hj v hv => (h.inn j hj v hv).kept (fun b e => hb b (h.g3 j hj v hv b e).2) hs, h.wt.kept (fun b e => hb b (h.g2 b e).2) hs, h.g0, h.g1, h.g2, h.g3, h.fg, fun b hf => Nat.lt_of_lt_of_le (h.lt b hf) hs⟩
theorem Scr.below {w W : World} {g : Nat} {s : SM} {F : Nat → Prop} (h : Scr w g s F) (hb : Below w.heap.size w W) : Scr W g s F := by
  obtain ⟨vr, vw, vs, who, h⟩ := h
  exact ⟨vr, vw, vs, who, h.below (fun b hf => hb.block b (h.lt b hf)) hb.size⟩
theorem Scr.apart {w W : World} {g : Nat} {s : SM} {F F' : Nat → Prop} (h : Scr w g s F) (hm : Mod F' w W) (hd : ∀ b, F b → ¬ F' b) : Scr W g s F := by
  obtain ⟨vr, vw, vs, who, h⟩ := h
  exact ⟨vr, vw, vs, who, h.below (fun b hf => hm.block b (h.lt b hf) (hd b hf)) hm.size⟩
/-- More blocks, none of them another's. -/
theorem ScrX.wider {gap : Option Nat} {w : World} {g : Nat} {s : SM} {vr vw : Value} {vs : List Value} {who : Nat → Nat} {F F' : Nat → Prop} (h : ScrX gap w g s vr vw vs who F) (hF : ∀ b, F b → F' b) (hlt : ∀ b, F' b → b < w.heap.size) : ScrX gap w g s vr vw vs who F' :=
  ⟨h.me, h.rs, h.n, h.inn, h.wt, h.g0, fun b e => ⟨(h.g1 b e).1, hF b (h.g1 b e).2⟩, fun b e => ⟨(h.g2 b e).1, hF b (h.g2 b e).2⟩, fun i hi v hv b e => ⟨(h.g3 i hi v hv b e).1, hF b (h.g3 i hi v hv b e).2⟩, hF g h.fg, hlt⟩
/-- Another telling that agrees on the blocks of F. -/
theorem ScrX.who {gap : Option Nat} {w : World} {g : Nat} {s : SM} {vr vw : Value} {vs : List Value} {who who' : Nat → Nat} {F : Nat → Prop} (h : ScrX gap w g s vr vw vs who F) (hw : ∀ b, F b → who' b = who b) : ScrX gap w g s vr vw vs who' F :=
  ⟨h.me, h.rs, h.n, h.inn, h.wt, (hw g h.fg).trans h.g0, fun b e => ⟨(hw b (h.g1 b e).2).trans (h.g1 b e).1, (h.g1 b e).2⟩, fun b e => ⟨(hw b (h.g2 b e).2).trans (h.g2 b e).1, (h.g2 b e).2⟩, fun i hi v hv b e => ⟨(hw b (h.g3 i hi v hv b e).2).trans (h.g3 i hi v hv b e).1, (h.g3 i hi v hv b e).2⟩, h.fg, h.lt⟩
theorem ScrX.open_ {w : World} {g : Nat} {s : SM} {vr vw : Value} {vs : List Value} {who : Nat → Nat} {F : Nat → Prop} (h : ScrX none w g s vr vw vs who F) (i : Nat) : ScrX (some i) w g s vr vw vs who F :=
  ⟨h.me, h.rs, h.n, fun j _ v hv => h.inn j (by simp) v hv, h.wt, h.g0, h.g1, h.g2, fun j _ v hv => h.g3 j (by simp) v hv, h.fg, h.lt⟩
/-- Row i is laid again: into the rows' cell, the model's row i is l. -/
theorem ScrX.close {i : Nat} {w : World} {g : Nat} {s : SM} {br or_ cr : Nat} {vw : Value} {vs : List Value} {who : Nat → Nat} {F : Nat → Prop} (h : ScrX (some i) w g s (.slice (some ⟨br, or_, none⟩) vs.length cr) vw vs who F) (hi : i < vs.length)
    {v : Value} {l : List Int} (hv : IRow w v (l.map (.int .i32))) (hw : ∀ b, v.ownBlock = some b → who b = 3 + i ∧ F b) :
    ScrX none (w.setCell ⟨br, or_ + i, none⟩ v) g { s with rows := s.rows.set i l } (.slice (some ⟨br, or_, none⟩) vs.length cr) vw (vs.set i v) who F := by
  have h1 := h.g1 br rfl
  have hne : ∀ b, who b ≠ 1 → (w.setCell ⟨br, or_ + i, none⟩ v).heap[b]? = w.heap[b]? := fun b hb => Below.heap_setCell w _ v b (fun e => hb (by rw [show b = br from e]; exact h1.1))
  have hsz : w.heap.size ≤ (w.setCell ⟨br, or_ + i, none⟩ v).heap.size := by simp
  have hgd : ∀ j, j ≠ i → (s.rows.set i l).getD j [] = s.rows.getD j [] := fun j hj => by
    rw [List.getD_eq_getElem?_getD, List.getD_eq_getElem?_getD, List.getElem?_set]
    rw [if_neg (fun e => hj e.symm)]
  have hgi : (s.rows.set i l).getD i [] = l := by
    rw [List.getD_eq_getElem?_getD, List.getElem?_set, if_pos rfl, if_pos (by rw [← h.n]; exact hi)]
    rfl
  refine ⟨(hne g (by rw [h.g0]; omega)).trans h.me, ?_, by rw [List.length_set, List.length_set]; exact h.n, fun j _ u hu => ?_, h.wt.kept (fun b e => hne b (by rw [(h.g2 b e).1]; omega)) hsz, h.g0, h.g1, h.g2, fun j _ u hu b e => ?_, h.fg, fun b hf => Nat.lt_of_lt_of_le (h.lt b hf) hsz⟩
  · have := IRow.put h.rs i hi v
    rw [show vs.length = (vs.set i v).length from List.length_set.symm]
    rw [List.length_set]
    exact this
  · by_cases hj : j = i
    · subst hj
      rw [List.getElem?_set, if_pos rfl, if_pos hi] at hu
      obtain rfl := Option.some.inj hu
      rw [hgi]
      exact hv.kept (fun b e => hne b (by rw [(hw b e).1]; omega)) hsz
    · rw [List.getElem?_set, if_neg (fun e => hj e.symm)] at hu
      rw [hgd j hj]
      exact (h.inn j (fun e => hj (by injection e)) u hu).kept (fun b e => hne b (by rw [(h.g3 j (fun e => hj (by injection e)) u hu b e).1]; omega)) hsz
  · by_cases hj : j = i
    · subst hj
      rw [List.getElem?_set, if_pos rfl, if_pos hi] at hu
      obtain rfl := Option.some.inj hu
      exact hw b e
    · rw [List.getElem?_set, if_neg (fun e => hj e.symm)] at hu
      exact h.g3 j (fun e => hj (by injection e)) u hu b e
/-- A field of the screen's own is written. -/
theorem ScrX.field {w : World} {g : Nat} {s s' : SM} {vr vw : Value} {vs : List Value} {who : Nat → Nat} {F : Nat → Prop} (h : ScrX none w g s vr vw vs who F) (k : Nat) (u : Value)
    (hc : (scrCells s vr vw).setIfInBounds k u = scrCells s' vr vw) (hr : s'.rows = s.rows) (hwt : s'.wait = s.wait) : ScrX none (w.setCell ⟨g, k, none⟩ u) g s' vr vw vs who F := by
  have hne : ∀ b, who b ≠ 0 → (w.setCell ⟨g, k, none⟩ u).heap[b]? = w.heap[b]? := fun b hb => Below.heap_setCell w _ u b (fun e => hb (by rw [show b = g from e]; exact h.g0))
  have hsz : w.heap.size ≤ (w.setCell ⟨g, k, none⟩ u).heap.size := by simp
  refine ⟨blk_put h.me k u hc, h.rs.kept (fun b e => hne b (by rw [(h.g1 b e).1]; omega)) hsz, by rw [hr]; exact h.n, fun j hj v hv => ?_, ?_, h.g0, h.g1, h.g2, h.g3, h.fg, fun b hf => Nat.lt_of_lt_of_le (h.lt b hf) hsz⟩
  · rw [hr]
    exact (h.inn j hj v hv).kept (fun b e => hne b (by rw [(h.g3 j hj v hv b e).1]; omega)) hsz
  · rw [hwt]
    exact h.wt.kept (fun b e => hne b (by rw [(h.g2 b e).1]; omega)) hsz
/-- What waits is another slice. -/
theorem ScrX.waits {w : World} {g : Nat} {s s' : SM} {vr vw vw' : Value} {vs : List Value} {who : Nat → Nat} {F : Nat → Prop} (h : ScrX none w g s vr vw vs who F)
    (hs : s' = { s with wait := s'.wait }) (hv : IRow w vw' (s'.wait.map (.int .u8))) (hw : ∀ b, vw'.ownBlock = some b → who b = 2 ∧ F b) : ScrX none (w.setCell ⟨g, 3, none⟩ vw') g s' vr vw' vs who F := by
  have hne : ∀ b, who b ≠ 0 → (w.setCell ⟨g, 3, none⟩ vw').heap[b]? = w.heap[b]? := fun b hb => Below.heap_setCell w _ vw' b (fun e => hb (by rw [show b = g from e]; exact h.g0))
  have hsz : w.heap.size ≤ (w.setCell ⟨g, 3, none⟩ vw').heap.size := by simp
  have hr : s'.rows = s.rows := by rw [hs]
  refine ⟨blk_put h.me 3 vw' (by rw [hs]; rfl), h.rs.kept (fun b e => hne b (by rw [(h.g1 b e).1]; omega)) hsz, by rw [hr]; exact h.n, fun j hj v hv' => ?_, hv.kept (fun b e => hne b (by rw [(hw b e).1]; omega)) hsz, h.g0, h.g1, hw, h.g3, h.fg, fun b hf => Nat.lt_of_lt_of_le (h.lt b hf) hsz⟩
  rw [hr]
  exact (h.inn j hj v hv').kept (fun b e => hne b (by rw [(h.g3 j hj v hv' b e).1]; omega)) hsz
end Go.Proofs.YtmdeehblmkpddaaDoor.Hand

namespace Go.Proofs.YtmdeehblmkpddaaDoor.Hand
open Go.RowKit Go.Proofs.YtmdeehblmkpddaaDoorW.PrintWords Go.Proofs.YtmdeehblmkpddaaDoorW.PrintLast
set_option linter.unusedVariables false
set_option linter.unusedSimpArgs false

theorem info_i32 : (Tryd.prog.info? 21).map (fun i => (i.zero, i.size, i.bytes)) = some (some (.int .i32 0), 1, 4) := by kernel_rfl
/-- A row with a character at a place; blanks where there is nothing yet. -/
def showL (l : List Int) (col : Nat) (c : Int) : List Int := (l ++ List.replicate (col + 1 - l.length) 32).set col c
def SM.show (s : SM) (c : Int) : SM := { s with rows := s.rows.set s.row (showL s.rowOf s.col c), col := s.col + 1 }
/-- While blanks are laid: the row apart. -/
structure ShowRel (w : World) (g : Nat) (s : SM) (F : Nat → Prop) (wr : World) (vr vw : Value) (vs : List Value) (v : Value) (l : List Int) : Prop where
  x : ∃ who, ScrX (some s.row) wr g s vr vw vs who (Fnew F w wr) ∧ ∀ b, v.ownBlock = some b → who b = 3 + s.row ∧ Fnew F w wr b
  v : IRow wr v (l.map (.int .i32))
  m : Mod F w wr
theorem ShowRel.append {w : World} {g : Nat} {s : SM} {F : Nat → Prop} {wr : World} {vr vw : Value} {vs : List Value} {v : Value} {l : List Int} (h : ShowRel w g s F wr vr vw vs v l) (o : Obj)
    {v' : Value} {w1 : World} {ys : List Int} (hv : IRow w1 v' (ys.map (.int .i32))) (hg : (wr.alloc o).grownBy w1 v.ownBlock) (hb : v'.ownBlock = v.ownBlock ∨ v'.ownBlock = some (wr.alloc o).heap.size) (hlt : ∀ b, v'.ownBlock = some b → b < w1.heap.size) : ShowRel w g s F w1 vr vw vs v' ys := by
  obtain ⟨who, hx, hw⟩ := h.x
  have hsz : (wr.alloc o).heap.size = wr.heap.size + 1 := by simp
  have hs1 : wr.heap.size ≤ w1.heap.size := by have := hg.size; omega
  have hold : ∀ b, Fnew F w wr b → who b ≠ 3 + s.row → w1.heap[b]? = wr.heap[b]? := fun b hf hne => by
    have hlt := hx.lt b hf
    refine (hg.block b (by omega) (fun e => hne (hw b e.symm).1)).trans (heap_alloc_old wr o hlt)
  have hx1 := hx.keep hold hs1
  have hF : ∀ b, Fnew F w wr b → Fnew F w w1 b := fun b hf => hf.elim .inl (fun h => .inr ⟨h.1, by omega⟩)
  have hwid : ∀ b, Fnew F w w1 b → b < w1.heap.size := fun b hf => by
    rcases hf with hf | hf
    · have := hx.lt b (.inl hf); omega
    · exact hf.2
  have hx2 := (hx1.wider hF hwid)
  refine ⟨⟨fun b => if wr.heap.size ≤ b then 3 + s.row else who b, ?_, fun b e => ?_⟩, hv, ?_⟩
  · have hxw : ScrX (some s.row) w1 g s vr vw vs (fun b => if wr.heap.size ≤ b then 3 + s.row else who b) (Fnew F w wr) := by
      refine ScrX.who ⟨hx1.me, hx1.rs, hx1.n, hx1.inn, hx1.wt, hx1.g0, hx1.g1, hx1.g2, hx1.g3, hx1.fg, hx1.lt⟩ fun b hf => ?_
      have := hx.lt b hf
      simp; omega
    exact hxw.wider hF hwid
  · have hb1 := hlt b e
    have hm := h.m.size
    rcases hb with h1 | h1
    · rw [h1] at e
      obtain ⟨e1, e2⟩ := hw b e
      have := hx.lt b e2
      refine ⟨?_, hF b e2⟩
      simp; omega
    · rw [h1] at e
      have e := Option.some.inj e
      refine ⟨?_, .inr ⟨by omega, hb1⟩⟩
      simp; omega
  · have h1 : Mod F wr (wr.alloc o) := Mod.ofBelow ((Below.refl _ wr).alloc (Nat.le_refl _) o)
    have h2 : Mod (Fnew F w wr) (wr.alloc o) w1 := Mod.ofGrown hg (fun b e => (hw b e).2)
    refine (h.m.trans h1 (fun k _ hk => hk)).trans h2 (fun k hk hf => ?_)
    rcases hf with hf | hf
    · exact hf
    · omega
/-- The row is laid again and the place goes on. -/
theorem ShowRel.finish {w : World} {g : Nat} {s : SM} {F : Nat → Prop} {wr : World} {br or_ cr b off cap : Nat} {vw : Value} {vs : List Value} {l : List Int}
    (h : ShowRel w g s F wr (.slice (some ⟨br, or_, none⟩) vs.length cr) vw vs (.slice (some ⟨b, off, none⟩) l.length cap) l) (hr : s.row < vs.length) (col : Nat) (hc : col < l.length) (c : Int) (n : Nat) (hn : s.col + 1 = n) :
    Scr ((((wr.setCell ⟨b, off + col, none⟩ (.int .i32 c)).setCell ⟨br, or_ + s.row, none⟩ (.slice (some ⟨b, off, none⟩) l.length cap)).setCell ⟨g, 2, none⟩ (.int .i64 n)).drew) g { s with rows := s.rows.set s.row (l.set col c), col := s.col + 1 }
      (Fnew F w ((((wr.setCell ⟨b, off + col, none⟩ (.int .i32 c)).setCell ⟨br, or_ + s.row, none⟩ (.slice (some ⟨b, off, none⟩) l.length cap)).setCell ⟨g, 2, none⟩ (.int .i64 n)).drew)) ∧
    Mod F w ((((wr.setCell ⟨b, off + col, none⟩ (.int .i32 c)).setCell ⟨br, or_ + s.row, none⟩ (.slice (some ⟨b, off, none⟩) l.length cap)).setCell ⟨g, 2, none⟩ (.int .i64 n)).drew) := by
  obtain ⟨who, hx, hw⟩ := h.x
  have hwb := hw b rfl
  have hv0 := h.v
  rw [show l.length = (l.map (Value.int .i32)).length from (List.length_map ..).symm] at hv0
  have hv := IRow.put hv0 col (by rw [List.length_map]; exact hc) (.int .i32 c)
  rw [List.length_map] at hv
  rw [show (l.map (Value.int .i32)).set col (.int .i32 c) = (l.set col c).map (Value.int .i32) from List.map_set.symm] at hv
  have hx1 : ScrX (some s.row) (wr.setCell ⟨b, off + col, none⟩ (.int .i32 c)) g s (.slice (some ⟨br, or_, none⟩) vs.length cr) vw vs who (Fnew F w wr) := hx.keep (fun k _ hne => Below.heap_setCell wr _ _ k (fun e => hne (by rw [show k = b from e]; exact hwb.1))) (by simp)
  have hx2 := hx1.close hr hv hw
  have hx3 := hx2.field (s' := { s with rows := s.rows.set s.row (l.set col c), col := s.col + 1 }) 2 (.int .i64 n) (by rw [← hn]; rfl) rfl rfl
  have m1 : Mod (Fnew F w wr) wr (wr.setCell ⟨b, off + col, none⟩ (.int .i32 c)) := Mod.ofSet wr b _ _ hwb.2
  have m2 := m1.trans (Mod.ofSet (F := Fnew F w wr) _ br (or_ + s.row) (.slice (some ⟨b, off, none⟩) l.length cap) (hx.g1 br rfl).2) (fun _ _ h => h)
  have m3 := m2.trans (Mod.ofSet (F := Fnew F w wr) _ g 2 (.int .i64 n) hx.fg) (fun _ _ h => h)
  have m4 := h.m.trans m3 (fun k hk hf => hf.elim id (fun h => by omega))
  have hx4 := hx3.below (W := ((((wr.setCell ⟨b, off + col, none⟩ (.int .i32 c)).setCell ⟨br, or_ + s.row, none⟩ (.slice (some ⟨b, off, none⟩) l.length cap)).setCell ⟨g, 2, none⟩ (.int .i64 n)).drew)) (fun _ _ => rfl) (Nat.le_refl _)
  refine ⟨⟨_, _, _, who, hx4.wider (fun k hf => hf.elim .inl (fun h => .inr ⟨h.1, by simpa using h.2⟩)) (fun k hf => ?_)⟩, ⟨m4.os, m4.tape, m4.output, m4.size, m4.block⟩⟩
  rcases hf with hf | hf
  · have := hx3.lt k (.inl hf); simpa using this
  · exact hf.2

theorem ShowRel.facts {w : World} {g : Nat} {s : SM} {F : Nat → Prop} {wr : World} {br or_ cr b off cap : Nat} {vw : Value} {vs : List Value} {l : List Int}
    (h : ShowRel w g s F wr (.slice (some ⟨br, or_, none⟩) vs.length cr) vw vs (.slice (some ⟨b, off, none⟩) l.length cap) l) (hr : s.row < vs.length) (col : Nat) (hc : col < l.length) (c : Int) :
    (wr.setCell ⟨b, off + col, none⟩ (.int .i32 c)).cell? ⟨g, 0, none⟩ = some (.slice (some ⟨br, or_, none⟩) vs.length cr) ∧ (wr.setCell ⟨b, off + col, none⟩ (.int .i32 c)).cell? ⟨g, 1, none⟩ = some (.int .i64 s.row) ∧
    (∃ u, (wr.setCell ⟨b, off + col, none⟩ (.int .i32 c)).cell? ⟨br, or_ + s.row, none⟩ = some u) ∧ (wr.setCell ⟨b, off + col, none⟩ (.int .i32 c)).frozen? ⟨br, or_ + s.row, none⟩ = false ∧
    ((wr.setCell ⟨b, off + col, none⟩ (.int .i32 c)).setCell ⟨br, or_ + s.row, none⟩ (.slice (some ⟨b, off, none⟩) l.length cap)).cell? ⟨g, 2, none⟩ = some (.int .i64 s.col) ∧
    ((wr.setCell ⟨b, off + col, none⟩ (.int .i32 c)).setCell ⟨br, or_ + s.row, none⟩ (.slice (some ⟨b, off, none⟩) l.length cap)).frozen? ⟨g, 2, none⟩ = false := by
  obtain ⟨who, hx, hw⟩ := h.x
  have hwb := hw b rfl
  have hx1 : ScrX (some s.row) (wr.setCell ⟨b, off + col, none⟩ (.int .i32 c)) g s (.slice (some ⟨br, or_, none⟩) vs.length cr) vw vs who (Fnew F w wr) := hx.keep (fun k _ hne => Below.heap_setCell wr _ _ k (fun e => hne (by rw [show k = b from e]; exact hwb.1))) (by simp)
  have hgbr : g ≠ br := fun e => by have h1 := hx1.g0; have h2 := (hx1.g1 br rfl).1; rw [← e, h1] at h2; omega
  have me2 : ((wr.setCell ⟨b, off + col, none⟩ (.int .i32 c)).setCell ⟨br, or_ + s.row, none⟩ (.slice (some ⟨b, off, none⟩) l.length cap)).heap[g]? = some (.cells (scrCells s (.slice (some ⟨br, or_, none⟩) vs.length cr) vw) 63 (0, 0)) :=
    (Below.heap_setCell _ _ _ g hgbr).trans hx1.me
  obtain ⟨br', or', cr', hv, h1, h2, h3, h4, h5⟩ := hx1.rs.form (by intro e; rw [e] at hr; simp at hr)
  injection hv with e1 e2 e3
  injection e1 with e1
  injection e1 with e1 e4
  subst e1; subst e4; subst e3
  exact ⟨(blk_cell hx1.me 0).trans rfl, (blk_cell hx1.me 1).trans rfl, ⟨_, h4 s.row (vs[s.row]'hr) (List.getElem?_eq_getElem hr)⟩, (h5 s.row (by omega)).2, (blk_cell me2 2).trans rfl, blk_frozen me2 2⟩
set_option maxHeartbeats 4000000 in
set_option maxRecDepth 100000 in
theorem show_ok (w : World) (g : Nat) (s : SM) (F : Nat → Prop) (c : Int) (n : Nat) (h : Scr w g s F) (hf : s.Fine n) (hn : n ≤ 1000000) :
    Calls Tryd.prog 74 #[.pointer (some ⟨g, 0, none⟩), .int .i32 c] w fun e w' => e = .returned (.tuple #[]) ∧ Scr w' g (s.show c) (Fnew F w w') ∧ Mod F w w' := by
  obtain ⟨i0, hi, hz0, hz1, hz2⟩ := info_parts info_i32
  obtain ⟨vr, vw, vs, who, hx⟩ := h
  have hrow : s.row < vs.length := by rw [hx.n]; exact hf.row
  obtain ⟨br, or_, cr, rfl, hcr, hcm, hbr, hrng, hth⟩ := hx.rs.form (by intro e; rw [e] at hrow; simp at hrow)
  have hvs := hrng s.row (vs[s.row]'hrow) (List.getElem?_eq_getElem hrow)
  have hin := hx.inn s.row (by simp) (vs[s.row]'hrow) (List.getElem?_eq_getElem hrow)
  change IRow w (vs[s.row]'hrow) (s.rowOf.map (.int .i32)) at hin
  obtain ⟨A0, cap0, hv0, hc0, hm0⟩ := hin.slice
  have m0 : w.cell? ⟨g, 0, none⟩ = some (.slice (some ⟨br, or_, none⟩) vs.length cr) := (blk_cell hx.me 0).trans rfl
  have m1 : w.cell? ⟨g, 1, none⟩ = some (.int .i64 s.row) := (blk_cell hx.me 1).trans rfl
  have hgA : g < w.heap.size := hx.lt g hx.fg
  have hcol := hf.col
  have hlen : s.rowOf.length ≤ n := by
    unfold SM.rowOf
    rw [List.getD_eq_getElem?_getD, List.getElem?_eq_getElem hf.row]
    exact hf.len _ (List.getElem_mem hf.row)
  have hst0 : ∀ W : World, (∀ k : Nat, W.heap[k]? = w.heap[k]?) → Mod F w W → ShowRel w g s F W (.slice (some ⟨br, or_, none⟩) vs.length cr) vw vs (.slice A0 s.rowOf.length cap0) s.rowOf := by
    intro W hW hm
    have hxW := (hx.below (W := W) (fun b _ => hW b) hm.size).open_ s.row
    rw [List.length_map] at hv0
    rw [← hv0]
    refine ⟨⟨who, hxW.wider (fun b hb => .inl hb) (fun b hb => ?_), fun b e => ?_⟩, hin.kept (fun b _ => hW b) hm.size, hm⟩
    · rcases hb with hb | hb
      · exact Nat.lt_of_lt_of_le (hx.lt b hb) hm.size
      · exact hb.2
    · have := hx.g3 s.row (by simp) _ (List.getElem?_eq_getElem hrow) b e
      exact ⟨this.1, .inl this.2⟩
  have hrI : ((s.row : Int) < (vs.length : Int)) := by omega
  have hr0 : (0 : Int) ≤ (s.row : Int) := by omega
  rw [hv0, List.length_map] at hvs
  have hnA : vs.length ≤ n := by rw [hx.n]; exact hf.rows
  have hth1 : w.there br or_ cr := hth
  have hst := Aside0.mk hst0
  have hl0 := Aside0.mk (show s.show c = { s with rows := s.rows.set s.row ((s.rowOf ++ List.replicate (s.col + 1 - s.rowOf.length) 32).set s.col c), col := s.col + 1 } from rfl)
  clear hin hx hrng hth hc0 hm0 hv0 hf hst0 hth1
  generalize s.rowOf = l0 at *
  go_enter Tryd.func74, Tryd.ntmps74
  go_wp2_with (fail)
  go_quiet (fail)
  have HS := Aside0.mk (hst.out (w.drewN nq) (fun _ => rfl) (Mod.ofBelow (pw_below_drewN (Below.refl _ w) nq)))
  clear hvs m0 m1 hst
  generalize w.drewN nq = W0 at *
  go_wp2_with (fail)
  go_loopw [4] (fun v4 wr => ∃ (l : List Int) (A : Option Addr) (cap : Nat), v4 = .slice A l.length cap ∧ Aside0 (∃ j, l = l0 ++ List.replicate j 32 ∧ (j = 0 ∨ l.length ≤ s.col + 1)) ∧ Aside0 (ShowRel w g s F wr (.slice (some ⟨br, or_, none⟩) vs.length cr) vw vs (.slice A l.length cap) l)) (fun v4 _ => match v4 with | .slice _ q _ => s.col + 1 - q | _ => 0)
  case atStart => exact ⟨l0, A0, cap0, rfl, ⟨0, by simp, .inl rfl⟩, HS⟩
  case round =>
    obtain ⟨l, A, cap, rfl, hj, hR⟩ := hrel
    have m2 : wr.cell? ⟨g, 2, none⟩ = some (.int .i64 s.col) := by
      obtain ⟨who', hx', _⟩ := hR.out.x
      exact (blk_cell hx'.me 2).trans rfl
    by_cases hlt : l.length ≤ s.col
    · have hv1 := Aside0.mk (hR.out.v.below ((Below.refl _ wr).alloc (Nat.le_refl _) (.cells #[.int .i32 32] 21)))
      have hblk := Aside0.mk (heap_alloc_new wr (.cells #[.int .i32 32] 21))
      go_wp2_with (at_builtin; refine wpList_append_irow _ rfl _ _ 78 78 rfl 21 i0 (.int .i32 0) 4 Tryd.underlying78 hi hz0 hz1 hz2 rfl rfl hv1.out rfl 1 [.int .i32 32] (Src.ofSlice _ Tryd.underlying78 ⟨wr.heap.size, 0, none⟩ 1 1 [.int .i32 32] rfl (fun j u hj => by
        match j, hj with
        | 0, hj => injection hj with hj; subst hj; exact (blk_cell hblk.out 0).trans rfl
        | j + 1, hj => simp at hj) (by simp [Value.oneCell'])) (by rw [List.length_map]; unfold maxLen; omega) (by rw [List.length_map]; omega) ?_; intro v' w1 hown hgr hbl)
      have hown' : IRow w1 v' ((l ++ [32]).map (.int .i32)) := by rw [List.map_append]; exact hown
      obtain ⟨A', cap', hv', _, _⟩ := hown'.slice
      rw [List.length_map] at hv'
      have hnew := hR.out.append (.cells #[.int .i32 32] 21) hown' hgr hbl (fun b e => hown'.lt b e)
      subst hv'
      obtain ⟨j, hj1, hj2⟩ := hj.out
      refine ⟨⟨l ++ [32], A', cap', rfl, ⟨j + 1, ?_, .inr (by simp; omega)⟩, ⟨hnew⟩⟩, ?_⟩
      · rw [hj1, List.append_assoc, ← List.replicate_succ']
      · simp; omega
    · have hlc : s.col < l.length := by omega
      obtain ⟨b, off, cap', hve, h1, h2, h3, h4, h5⟩ := hR.out.v.form (by intro e; rw [List.map_eq_nil_iff] at e; rw [e] at hlc; simp at hlc)
      rw [List.length_map] at hve h1
      injection hve with e1 e2 e3
      subst e1; subst e3
      have q0 := h4 s.col (.int .i32 (l[s.col]'hlc)) (by simp [List.getElem?_eq_getElem hlc])
      have q1 := (h5 s.col (by omega)).2
      obtain ⟨f0, f1, ⟨u, f2⟩, f3, f4, f5⟩ := hR.out.facts hrow s.col hlc c
      have hfin := Aside0.mk (hR.out.finish hrow s.col hlc c (s.col + 1) rfl)
      have hcI : ((s.col : Int) < (l.length : Int)) := by omega
      have hc0 : (0 : Int) ≤ (s.col : Int) := by omega
      have hll : Aside0 (l = l0 ++ List.replicate (s.col + 1 - l0.length) 32) := by
        obtain ⟨j, hj1, hj2⟩ := hj.out
        refine ⟨?_⟩
        rw [hj1]
        congr 2
        rw [hj1, List.length_append, List.length_replicate] at hlc hj2
        rcases hj2 with rfl | hj2 <;> omega
      clear hR hj h1 h2 h3 h4 h5
      go_wp2_with (fail)
      generalize wr.setCell ⟨b, off + s.col, none⟩ (.int .i32 c) = W1 at *
      refine wp_region_still_tail 10 (by kernel_rfl) (by kernel_rfl) ?_
      simp only [List.take_succ_cons, List.take_zero, List.drop_succ_cons, List.drop_zero]
      rw [show ({ W1 with drawn := W1.drawn + 1 } : World) = W1.drew from rfl]
      repeat still_step
      try refine wpStill_nil ?_
      go_wp2_with (fail)
      go_end0
      exact ⟨rfl, by rw [hl0.out, ← hll.out]; exact hfin.out.1, hfin.out.2⟩
end Go.Proofs.YtmdeehblmkpddaaDoor.Hand

namespace Go.Proofs.YtmdeehblmkpddaaDoor.Hand
open Go.RowKit Go.Proofs.YtmdeehblmkpddaaDoorW.PrintWords Go.Proofs.YtmdeehblmkpddaaDoorW.PrintLast
set_option linter.unusedVariables false
set_option linter.unusedSimpArgs false

theorem cell_stays {W W' : World} {p : Addr} {v : Value} (h : W.cell? p = some v) (hb : Below W.heap.size W W') : W'.cell? p = some v := (hb.cell (World.block_lt_of_cell? W _ h)).trans h
def ErrIn (w : World) (g : Nat) : Prop := ∃ ev, w.cell? ⟨g, 0, none⟩ = some ev ∧ (ev = .nilIface ∨ ∃ te pe, ev = .iface te pe)
theorem ErrIn.below {w W : World} {g : Nat} (h : ErrIn w g) (hb : Below w.heap.size w W) : ErrIn W g := by
  obtain ⟨ev, h1, h2⟩ := h
  exact ⟨ev, cell_stays h1 hb, h2⟩
theorem gPow : Tryd.prog.globalNamed "internal/strconv.uint64pow10" = some 3 := by kernel_rfl
/-- What numbers' texts ask of the world. -/
structure TabN (w : World) : Prop where
  pow : Lib.TabIs Tryd.prog w "internal/strconv.uint64pow10" .u64 Lib.pow10Tab
  es : ErrIn w 4
  er : ErrIn w 5
theorem TabN.below {w W : World} (h : TabN w) (hb : Below w.heap.size w W) : TabN W := ⟨Joins.tab_stays gPow h.pow hb (Nat.le_refl _), h.es.below hb, h.er.below hb⟩

/-- What is between ESC [ and D. -/
def backP (t : List UInt8) : List UInt8 := Lib.trimSuffix (Lib.trimPrefix t [27, 91]) [68]
def atoiV (l : List UInt8) : Int := match Lib.atoiAll l with | .ok v => v | .range => Lib.atoiSat l | _ => 0
def atoiOk (l : List UInt8) : Bool := match Lib.atoiAll l with | .ok _ => true | _ => false
def backOk (t : List UInt8) : Bool :=
  Lib.hasPrefix t [27, 91] && Lib.hasSuffix (Lib.trimPrefix t [27, 91]) [68] && atoiOk (backP t) && decide (0 < atoiV (backP t)) && decide (atoiV (backP t) ≤ 9999) && decide (Lib.itoa (atoiV (backP t)) = backP t)
theorem Lib_atoi_range {l : List UInt8} {v : Int} (h : Lib.atoiAll l = .ok v) : -9223372036854775808 ≤ v ∧ v ≤ 9223372036854775807 := by
  cases l with
  | nil => simp [Lib.atoiAll] at h
  | cons c r =>
    simp only [Lib.atoiAll] at h
    cases h2 : Lib.parseMag (if c.toNat = 43 ∨ c.toNat = 45 then r else c :: r)
    case ok u =>
      rw [h2] at h
      simp only at h
      by_cases hn : c.toNat = 45
      · by_cases hb : 9223372036854775808 < u
        · rw [if_neg (by simp [hn]), if_pos ⟨hn, hb⟩] at h; cases h
        · rw [if_neg (by simp [hn]), if_neg (fun x => hb x.2), if_pos hn] at h
          injection h with h
          omega
      · by_cases hb : 9223372036854775808 ≤ u
        · rw [if_pos ⟨hn, hb⟩] at h; cases h
        · rw [if_neg (fun x => hb x.2), if_neg (fun x => hn x.1), if_neg hn] at h
          injection h with h
          omega
    all_goals (rw [h2] at h; cases h)
theorem atoi_sat (l : List UInt8) : -9223372036854775808 ≤ Lib.atoiSat l ∧ Lib.atoiSat l ≤ 9223372036854775807 := by
  unfold Lib.atoiSat
  split <;> omega
theorem atoi_range (l : List UInt8) : -9223372036854775808 ≤ atoiV l ∧ atoiV l ≤ 9223372036854775807 := by
  unfold atoiV
  split
  · rename_i v h
    exact Lib_atoi_range h
  · exact atoi_sat l
  · omega
theorem atoi_any (s : ByteArray) (hs : s.size ≤ 281474976710656) (w : World) (HT : TabN w) :
    Calls Tryd.prog 81 #[.string s] w fun e w' => ∃ ev, e = .returned (.tuple #[.int .i64 (atoiV s.data.toList), ev]) ∧ ((atoiOk s.data.toList = false ∧ ∃ N, ev = .iface 139 (.pointer (some ⟨N, 0, none⟩))) ∨ (atoiOk s.data.toList = true ∧ ev = .nilIface)) ∧ Below w.heap.size w w' := by
  unfold atoiV atoiOk
  by_cases hs' : isSyn (Lib.atoiAll s.data.toList) = true
  · obtain ⟨ev, h1, h2⟩ := HT.es
    refine (Tryd.strconv_Atoi_syntax s hs hs' ev w h1 h2).mono ?_
    rintro e w' ⟨N, rfl, _, _, hb⟩
    revert hs'
    cases Lib.atoiAll s.data.toList <;> simp [isSyn, hb]
  · cases h : Lib.atoiAll s.data.toList with
    | ok v =>
      refine (Tryd.strconv_Atoi_ok s (by omega) v h w).mono ?_
      rintro e w' ⟨rfl, hw⟩
      refine ⟨_, rfl, .inr ⟨rfl, rfl⟩, ?_⟩
      rcases hw with rfl | ⟨t, rfl⟩
      · exact Below.refl _ _
      · exact Lib.bytesWorld_below w 5 t
    | range =>
      obtain ⟨ev, h1, h2⟩ := HT.er
      refine (Tryd.strconv_Atoi_range s hs h ev w h1 h2).mono ?_
      rintro e w' ⟨N, rfl, _, _, hb⟩
      exact ⟨_, rfl, .inl ⟨rfl, N, rfl⟩, hb⟩
    | _ =>
      rw [h] at hs'
      exact absurd rfl hs'
theorem itoa_any (n : Int) (h0 : -9223372036854775808 ≤ n) (h1 : n ≤ 9223372036854775807) (w : World) (HT : TabN w) :
    Calls Tryd.prog 82 #[.int .i64 n] w fun e w' => e = .returned (.string ⟨(Lib.itoa n).toArray⟩) ∧ Below w.heap.size w w' := by
  refine (Tryd.strconv_Itoa n h0 h1 w HT.pow).mono ?_
  rintro e w' ⟨rfl, k, os, rfl⟩
  exact ⟨rfl, Lib.below_grow _ w (Nat.le_refl _) k os⟩
theorem trimP_len (t p : List UInt8) : (Lib.trimPrefix t p).length ≤ t.length := by
  unfold Lib.trimPrefix
  split
  · rw [List.length_drop]; omega
  · omega
theorem trimS_len (t p : List UInt8) : (Lib.trimSuffix t p).length ≤ t.length := by
  unfold Lib.trimSuffix
  split
  · rw [List.length_take]; omega
  · omega

set_option maxHeartbeats 4000000 in
set_option maxRecDepth 100000 in
theorem back_ok (t : ByteArray) (ht : t.size ≤ 100000) (w : World) (HT : TabN w) :
    Calls Tryd.prog 71 #[.string t] w fun e w' => e = .returned (.tuple #[.int .i64 (atoiV (backP t.data.toList)), .bool (backOk t.data.toList)]) ∧ Below w.heap.size w w' := by
  have HC : ∀ W, Calls Tryd.prog 79 #[.string t, .string ⟨#[27, 91]⟩] W fun e w' => e = .returned (.tuple #[.string ⟨(Lib.trimPrefix t.data.toList [27, 91]).toArray⟩, .bool (Lib.hasPrefix t.data.toList [27, 91])]) ∧ w' = W := fun W => Tryd.strings_CutPrefix t ⟨#[27, 91]⟩ W
  have HS : ∀ W, Calls Tryd.prog 80 #[.string ⟨(Lib.trimPrefix t.data.toList [27, 91]).toArray⟩, .string ⟨#[68]⟩] W fun e w' => e = .returned (.tuple #[.string ⟨(backP t.data.toList).toArray⟩, .bool (Lib.hasSuffix (Lib.trimPrefix t.data.toList [27, 91]) [68])]) ∧ w' = W := fun W => by
    have h3 := Lib.size_eq t
    have h1 := trimP_len t.data.toList [27, 91]
    have := Tryd.strings_CutSuffix ⟨(Lib.trimPrefix t.data.toList [27, 91]).toArray⟩ ⟨#[68]⟩ W (by show (Lib.trimPrefix t.data.toList [27, 91]).toArray.size ≤ _; rw [List.size_toArray]; omega)
    simpa [backP] using this
  have hsz : (⟨(backP t.data.toList).toArray⟩ : ByteArray).size ≤ 281474976710656 := by
    show (backP t.data.toList).toArray.size ≤ _
    rw [List.size_toArray]
    have h1 := trimP_len t.data.toList [27, 91]
    have h2 := trimS_len (Lib.trimPrefix t.data.toList [27, 91]) [68]
    have h3 := Lib.size_eq t
    unfold backP
    omega
  have HA : ∀ W, TabN W → _ := fun W hT => atoi_any ⟨(backP t.data.toList).toArray⟩ hsz W hT
  rw [show (⟨(backP t.data.toList).toArray⟩ : ByteArray).data.toList = backP t.data.toList by simp] at HA
  have hr := atoi_range (backP t.data.toList)
  have HI : ∀ W, TabN W → _ := fun W hT => itoa_any (atoiV (backP t.data.toList)) hr.1 hr.2 W hT
  have hq := ba_beq ⟨(Lib.itoa (atoiV (backP t.data.toList))).toArray⟩ ⟨(backP t.data.toList).toArray⟩
  have hq2 : decide ((⟨(Lib.itoa (atoiV (backP t.data.toList))).toArray⟩ : ByteArray) = ⟨(backP t.data.toList).toArray⟩) = decide (Lib.itoa (atoiV (backP t.data.toList)) = backP t.data.toList) := by
    rw [decide_eq_decide]
    exact ⟨fun e => ba_inj e, fun e => by rw [e]⟩
  rw [hq2] at hq
  have hB : Aside0 (backOk t.data.toList = (Lib.hasPrefix t.data.toList [27, 91] && Lib.hasSuffix (Lib.trimPrefix t.data.toList [27, 91]) [68] && atoiOk (backP t.data.toList) && decide (0 < atoiV (backP t.data.toList)) && decide (atoiV (backP t.data.toList) ≤ 9999) && decide (Lib.itoa (atoiV (backP t.data.toList)) = backP t.data.toList))) := ⟨rfl⟩
  clear hq2 hsz
  generalize decide (Lib.itoa (atoiV (backP t.data.toList)) = backP t.data.toList) = b6 at *
  generalize (⟨(Lib.itoa (atoiV (backP t.data.toList))).toArray⟩ : ByteArray) = I at *
  generalize atoiV (backP t.data.toList) = n at *
  generalize atoiOk (backP t.data.toList) = b3 at *
  generalize (⟨(backP t.data.toList).toArray⟩ : ByteArray) = Q at *
  generalize Lib.hasSuffix (Lib.trimPrefix t.data.toList [27, 91]) [68] = b2 at *
  generalize Lib.hasPrefix t.data.toList [27, 91] = b1 at *
  generalize (⟨(Lib.trimPrefix t.data.toList [27, 91]).toArray⟩ : ByteArray) = R at *
  generalize backOk t.data.toList = B at *
  obtain ⟨hr0, hr1⟩ := hr
  go_enter Tryd.func71, Tryd.ntmps71
  go_wp2_with (fail)
  refine (HC _).mono ?_
  rintro e w1 ⟨rfl, rfl⟩
  go_wp2_with (fail)
  refine (HS _).mono ?_
  rintro e w2 ⟨rfl, rfl⟩
  go_wp2_with (fail)
  refine (HA _ HT).mono ?_
  rintro e w3 ⟨ev, rfl, hev, hb⟩
  have hT3 := HT.below hb
  have hbA := Aside0.mk hb
  clear HC HS HA hb
  cases b1
  · have hBf : B = false := hB.out.trans (by simp)
    clear HI
    go_wp2_with (fail)
    go_ret2
    exact ⟨by first | rfl | (rw [hBf]; rfl), hbA.out⟩
  · cases b2
    · have hBf : B = false := hB.out.trans (by simp)
      clear HI
      go_wp2_with (fail)
      go_ret2
      exact ⟨by first | rfl | (rw [hBf]; rfl), hbA.out⟩
    · rcases hev with ⟨rfl, N, rfl⟩ | ⟨rfl, rfl⟩
      · have hBf : B = false := hB.out.trans (by simp)
        clear HI
        go_wp2_with (fail)
        go_ret2
        exact ⟨by first | rfl | (rw [hBf]; rfl), hbA.out⟩
      · by_cases h0 : 0 < n
        · by_cases h9 : n ≤ 9999
          · have hBf : Aside0 (B = b6) := ⟨hB.out.trans (by simp [h0, h9])⟩
            go_wp2_with (fail)
            refine (HI _ hT3).mono ?_
            rintro e w4 ⟨rfl, hb4⟩
            have hb5 := Aside0.mk (hbA.out.trans (hb4.mono hbA.out.size))
            clear HI hb4
            cases b6
            all_goals
              go_wp2_with (fail)
              go_ret2
              exact ⟨by first | rfl | (rw [hBf.out]; rfl), hb5.out⟩
          · have hBf : B = false := hB.out.trans (by simp [h9])
            have h9' : 9999 < n := by omega
            clear HI
            go_wp2_with (fail)
            go_ret2
            exact ⟨by first | rfl | (rw [hBf]; rfl), hbA.out⟩
        · have hBf : B = false := hB.out.trans (by simp [h0])
          have h0' : n ≤ 0 := by omega
          clear HI
          go_wp2_with (fail)
          go_ret2
          exact ⟨by first | rfl | (rw [hBf]; rfl), hbA.out⟩
end Go.Proofs.YtmdeehblmkpddaaDoor.Hand

namespace Go.Proofs.YtmdeehblmkpddaaDoor.Hand
open Go.RowKit Go.Proofs.YtmdeehblmkpddaaDoorW.PrintWords Go.Proofs.YtmdeehblmkpddaaDoorW.PrintLast
set_option linter.unusedVariables false
set_option linter.unusedSimpArgs false
def SM.cut (s : SM) : SM := { s with rows := s.rows.set s.row (s.rowOf.take s.col) }
def tK : List UInt8 := [27, 91, 75]
def tH : List UInt8 := [27, 91, 63, 50, 48, 48, 52, 104]
def tL : List UInt8 := [27, 91, 63, 50, 48, 48, 52, 108]
def SM.seq (s : SM) (t : List UInt8) : SM × Bool :=
  if t = tK then (s.cut, true)
  else if t = tH then ({ s with pastes := true }, true)
  else if t = tL then ({ s with pastes := false }, true)
  else if backOk t = true then ({ s with col := s.col - (atoiV (backP t)).toNat }, true) else (s, false)
theorem Fnew_id {F : Nat → Prop} {w W : World} (h : ∀ b, F b → b < w.heap.size) (hs : w.heap.size ≤ W.heap.size) : ∀ b, Fnew F w W b → b < W.heap.size := fun b hb => by
  rcases hb with hb | hb
  · exact Nat.lt_of_lt_of_le (h b hb) hs
  · exact hb.2
theorem seq_eq_other {t : ByteArray} {l : List UInt8} (h : t ≠ ⟨l.toArray⟩) : (t.toList == l) = false := by
  have := ba_beq t ⟨l.toArray⟩
  rw [decide_eq_false h] at this
  rw [show (⟨l.toArray⟩ : ByteArray).toList = l by rw [ByteArray.toList_eq]] at this
  exact this
/-- A field is written, at whatever draws. -/
theorem Scr.field {w : World} {g : Nat} {s s' : SM} {vr vw : Value} {vs : List Value} {who : Nat → Nat} {F : Nat → Prop} {w0 W : World} (h : ScrX none w g s vr vw vs who F) (h0 : Mod F w0 w) (k : Nat) (u : Value)
    (hc : (scrCells s vr vw).setIfInBounds k u = scrCells s' vr vw) (hr : s'.rows = s.rows) (hwt : s'.wait = s.wait) (hF : ∀ b, F b → b < w0.heap.size) :
    Scr (w.setCell ⟨g, k, none⟩ u) g s' (Fnew F w0 (w.setCell ⟨g, k, none⟩ u)) ∧ Mod F w0 (w.setCell ⟨g, k, none⟩ u) := by
  have h1 := h.field k u hc hr hwt
  have m1 := h0.trans (Mod.ofSet (F := F) w g k u h.fg) (fun _ _ h => h)
  exact ⟨⟨_, _, _, who, h1.wider (fun b hb => .inl hb) (Fnew_id hF m1.size)⟩, m1⟩

set_option maxHeartbeats 4000000 in
set_option maxRecDepth 100000 in
theorem seq_past (w : World) (g : Nat) (s : SM) (F : Nat → Prop) (b : Bool) (t : ByteArray) (h : Scr w g s F) (ht : (b = true ∧ t = ⟨tH.toArray⟩) ∨ (b = false ∧ t = ⟨tL.toArray⟩)) :
    Calls Tryd.prog 49 #[.pointer (some ⟨g, 0, none⟩), .string t] w fun e w' => e = .returned (.bool true) ∧ Scr w' g { s with pastes := b } (Fnew F w w') ∧ Mod F w w' := by
  obtain ⟨vr, vw, vs, who, hx⟩ := h
  have m5 : w.cell? ⟨g, 5, none⟩ = some (.bool s.pastes) := (blk_cell hx.me 5).trans rfl
  have f5 := blk_frozen hx.me 5
  have hfin := Aside0.mk (Scr.field (s' := { s with pastes := b }) (W := w) hx (Mod.refl F w) 5 (.bool b) rfl rfl rfl hx.lt)
  have HS : ∀ W, Calls Tryd.prog 70 #[.string t, .string ⟨#[104]⟩] W fun e w' => e = .returned (.bool b) ∧ w' = W := fun W => by
    rcases ht with ⟨rfl, rfl⟩ | ⟨rfl, rfl⟩
    · exact Tryd.strings_HasSuffix ⟨tH.toArray⟩ ⟨#[104]⟩ W (by decide)
    · exact Tryd.strings_HasSuffix ⟨tL.toArray⟩ ⟨#[104]⟩ W (by decide)
  clear hx
  rcases ht with ⟨rfl, rfl⟩ | ⟨rfl, rfl⟩
  all_goals
    go_enter Tryd.func49, Tryd.ntmps49
    go_wp2_with (fail)
    refine (HS _).mono ?_
    rintro e w1 ⟨rfl, rfl⟩
    go_wp2_with (fail)
    go_ret
    exact ⟨rfl, hfin.out.1, hfin.out.2⟩

set_option maxHeartbeats 4000000 in
set_option maxRecDepth 100000 in
theorem seq_back (w : World) (g : Nat) (s : SM) (F : Nat → Prop) (n : Nat) (t : ByteArray) (h : Scr w g s F) (hf : s.Fine n) (hn : n ≤ 1000000) (ht : t.size ≤ 100000) (HT : TabN w) (h1 : t ≠ ⟨tK.toArray⟩) (h2 : t ≠ ⟨tH.toArray⟩) (h3 : t ≠ ⟨tL.toArray⟩) :
    Calls Tryd.prog 49 #[.pointer (some ⟨g, 0, none⟩), .string t] w fun e w' => e = .returned (.bool (backOk t.data.toList)) ∧ Scr w' g (if backOk t.data.toList = true then { s with col := s.col - (atoiV (backP t.data.toList)).toNat } else s) (Fnew F w w') ∧ Mod F w w' := by
  obtain ⟨vr, vw, vs, who, hx⟩ := h
  have hcol := hf.col
  have q1 := seq_eq_other h1
  have q2 := seq_eq_other h2
  have q3 := seq_eq_other h3
  unfold tK at q1
  unfold tH at q2
  unfold tL at q3
  have HB := back_ok t ht w HT
  have hpos : backOk t.data.toList = true → 0 < atoiV (backP t.data.toList) ∧ atoiV (backP t.data.toList) ≤ 9999 := by
    intro h
    unfold backOk at h
    simp only [Bool.and_eq_true, decide_eq_true_eq] at h
    exact ⟨h.1.1.2, h.1.2⟩
  generalize atoiV (backP t.data.toList) = q at *
  generalize backOk t.data.toList = b at *
  clear h1 h2 h3
  have hxA := Aside0.mk hx
  have hpA := Aside0.mk hpos
  clear hx hpos hf
  go_enter Tryd.func49, Tryd.ntmps49
  go_wp2_with (fail)
  refine HB.mono ?_
  rintro e w1 ⟨rfl, hb⟩
  have hx1 := hxA.out.below (fun k hk => hb.block k (hxA.out.lt k hk)) hb.size
  have m1 : Mod F w w1 := Mod.ofBelow hb
  clear hb HB
  cases b
  · have hfin := Aside0.mk (And.intro hx1 m1)
    clear hx1 m1
    go_wp2_with (fail)
    go_ret
    exact ⟨rfl, ⟨_, _, _, who, hfin.out.1.wider (fun b hb => .inl hb) (Fnew_id hxA.out.lt hfin.out.2.size)⟩, hfin.out.2⟩
  · obtain ⟨p0, p1⟩ := hpA.out rfl
    have m2 : w1.cell? ⟨g, 2, none⟩ = some (.int .i64 s.col) := (blk_cell hx1.me 2).trans rfl
    have f2 := blk_frozen hx1.me 2
    have hfin := Aside0.mk (Scr.field (s' := { s with col := s.col - q.toNat }) (W := w) hx1 m1 2 (.int .i64 ((s.col - q.toNat : Nat) : Int)) rfl rfl rfl hxA.out.lt)
    clear hx1 m1
    have e : ((s.col - q.toNat : Nat) : Int) = max 0 ((s.col : Int) - q) := by omega
    rw [e] at hfin
    have hd : -9999 ≤ (s.col : Int) - q := by omega
    go_wp2_with (fail)
    go_ret
    exact ⟨rfl, hfin.out.1, hfin.out.2⟩

set_option maxHeartbeats 4000000 in
set_option maxRecDepth 100000 in
theorem seq_cut (w : World) (g : Nat) (s : SM) (F : Nat → Prop) (n : Nat) (h : Scr w g s F) (hf : s.Fine n) (hn : n ≤ 1000000) :
    Calls Tryd.prog 49 #[.pointer (some ⟨g, 0, none⟩), .string ⟨tK.toArray⟩] w fun e w' => e = .returned (.bool true) ∧ Scr w' g s.cut (Fnew F w w') ∧ Mod F w w' := by
  obtain ⟨vr, vw, vs, who, hx⟩ := h
  have hrow : s.row < vs.length := by rw [hx.n]; exact hf.row
  obtain ⟨br, or_, cr, rfl, hcr, hcm, hbr, hrng, hth⟩ := hx.rs.form (by intro e; rw [e] at hrow; simp at hrow)
  have hvs := hrng s.row (vs[s.row]'hrow) (List.getElem?_eq_getElem hrow)
  have hin := hx.inn s.row (by simp) (vs[s.row]'hrow) (List.getElem?_eq_getElem hrow)
  change IRow w (vs[s.row]'hrow) (s.rowOf.map (.int .i32)) at hin
  obtain ⟨A0, cap0, hv0, hc0, hm0⟩ := hin.slice
  have m0 : w.cell? ⟨g, 0, none⟩ = some (.slice (some ⟨br, or_, none⟩) vs.length cr) := (blk_cell hx.me 0).trans rfl
  have m1 : w.cell? ⟨g, 1, none⟩ = some (.int .i64 s.row) := (blk_cell hx.me 1).trans rfl
  have m2 : w.cell? ⟨g, 2, none⟩ = some (.int .i64 s.col) := (blk_cell hx.me 2).trans rfl
  have hcol := hf.col
  have hlen : s.rowOf.length ≤ n := by
    unfold SM.rowOf
    rw [List.getD_eq_getElem?_getD, List.getElem?_eq_getElem hf.row]
    exact hf.len _ (List.getElem_mem hf.row)
  have hnA : vs.length ≤ n := by rw [hx.n]; exact hf.rows
  have hfz := (hth s.row (by omega)).2
  have hrI : ((s.row : Int) < (vs.length : Int)) := by omega
  have hr0 : (0 : Int) ≤ (s.row : Int) := by omega
  have hk1 : min s.rowOf.length s.col ≤ s.rowOf.length := Nat.min_le_left _ _
  have hkI : min (s.rowOf.length : Int) (s.col : Int) = ((min s.rowOf.length s.col : Nat) : Int) := by omega
  have htk : s.rowOf.take s.col = s.rowOf.take (min s.rowOf.length s.col) := by
    rw [List.take_eq_take_iff]; omega
  rw [List.length_map] at hv0
  rw [List.length_map] at hc0
  have hfin0 : ∀ W : World, (∀ k : Nat, W.heap[k]? = w.heap[k]?) → Mod F w W → Scr (W.setCell ⟨br, or_ + s.row, none⟩ (.slice A0 (min s.rowOf.length s.col) (min s.rowOf.length s.col))) g s.cut (Fnew F w (W.setCell ⟨br, or_ + s.row, none⟩ (.slice A0 (min s.rowOf.length s.col) (min s.rowOf.length s.col)))) ∧ Mod F w (W.setCell ⟨br, or_ + s.row, none⟩ (.slice A0 (min s.rowOf.length s.col) (min s.rowOf.length s.col))) := by
    intro W hW hm
    have hxW := (hx.below (W := W) (fun b _ => hW b) hm.size).open_ s.row
    have hinW := hin.kept (fun b _ => hW b) hm.size
    have hg3 := hx.g3 s.row (by simp) _ (List.getElem?_eq_getElem hrow)
    rw [hv0] at hinW hg3
    have hnew : IRow W (.slice A0 (min s.rowOf.length s.col) (min s.rowOf.length s.col)) ((s.rowOf.take s.col).map (.int .i32)) := by
      rw [htk]
      rcases hinW with ⟨e1, e2⟩ | ⟨b, off, cap, e1, _⟩
      · rw [List.map_eq_nil_iff] at e2
        injection e1 with e1 _ _
        rw [e2, e1]
        exact .inl ⟨rfl, rfl⟩
      · injection e1 with e1 _ e3
        subst e1
        have h2 := hin.kept (W := W) (fun b _ => hW b) hm.size
        rw [hv0] at h2
        have h3 : IRow W (.slice (some ⟨b, off, none⟩) (s.rowOf.map (Value.int .i32)).length cap0) (s.rowOf.map (.int .i32)) := by rw [List.length_map]; exact h2
        have := h3.take (min s.rowOf.length s.col) (by rw [List.length_map]; exact hk1)
        rw [List.map_take]
        exact this
    have hc := hxW.close hrow hnew (fun b e => by
      have := hg3 b (by
        cases A0 with
        | none => cases e
        | some a => exact e)
      exact this)
    have m2 := hm.trans (Mod.ofSet (F := F) W br (or_ + s.row) (.slice A0 (min s.rowOf.length s.col) (min s.rowOf.length s.col)) (hx.g1 br rfl).2) (fun _ _ h => h)
    exact ⟨⟨_, _, _, who, hc.wider (fun b hb => .inl hb) (Fnew_id hx.lt m2.size)⟩, m2⟩
  have hfin := Aside0.mk hfin0
  rw [hv0] at hvs
  have hA0 : A0.isSome = true ∨ A0 = none := by cases A0 <;> simp
  clear hx hin hrng hth hm0 hv0 hf hfin0 htk hcr hcm hbr
  generalize hkd : min s.rowOf.length s.col = kk at *
  generalize s.rowOf = l0 at *
  have hkc : kk ≤ cap0 := by omega
  clear hkd
  unfold tK
  go_enter Tryd.func49, Tryd.ntmps49
  go_wp2_with (fail)
  go_quiet (fail)
  have hfin1 := Aside0.mk (hfin.out (w.drewN nq).drew (fun _ => rfl) (Mod.ofBelow (pw_below_drewN (Below.refl _ w) nq).drew))
  have m0' : (w.drewN nq).cell? ⟨g, 0, none⟩ = some (.slice (some ⟨br, or_, none⟩) vs.length cr) := m0
  have m1' : (w.drewN nq).cell? ⟨g, 1, none⟩ = some (.int .i64 s.row) := m1
  have m2' : (w.drewN nq).cell? ⟨g, 2, none⟩ = some (.int .i64 s.col) := m2
  have hvs' : (w.drewN nq).cell? ⟨br, or_ + s.row, none⟩ = some (.slice A0 l0.length cap0) := hvs
  have hfz' : (w.drewN nq).frozen? ⟨br, or_ + s.row, none⟩ = false := hfz
  clear hfin m0 m1 m2 hvs hfz
  generalize w.drewN nq = W0 at *
  go_wp2_with (fail)

  refine wp_region_still_tail 13 (by kernel_rfl) (by kernel_rfl) ?_
  simp only [List.take_succ_cons, List.take_zero, List.drop_succ_cons, List.drop_zero]
  rw [show ({ W0 with drawn := W0.drawn + 1 } : World) = W0.drew from rfl]
  repeat still_step
  try refine wpStill_nil ?_
  go_wp2_with (fail)
  go_ret
  exact ⟨rfl, hfin1.out.1, hfin1.out.2⟩

theorem ba_of_list {t : ByteArray} {l : List UInt8} (h : t.data.toList = l) : t = ⟨l.toArray⟩ := by
  subst h
  rfl
theorem seq_ok (w : World) (g : Nat) (s : SM) (F : Nat → Prop) (n : Nat) (t : ByteArray) (h : Scr w g s F) (hf : s.Fine n) (hn : n ≤ 1000000) (ht : t.size ≤ 100000) (HT : TabN w) :
    Calls Tryd.prog 49 #[.pointer (some ⟨g, 0, none⟩), .string t] w fun e w' => e = .returned (.bool (s.seq t.data.toList).2) ∧ Scr w' g (s.seq t.data.toList).1 (Fnew F w w') ∧ Mod F w w' := by
  unfold SM.seq
  by_cases h1 : t.data.toList = tK
  · rw [if_pos h1, ba_of_list h1]
    exact seq_cut w g s F n h hf hn
  · rw [if_neg h1]
    by_cases h2 : t.data.toList = tH
    · rw [if_pos h2]
      exact seq_past w g s F true t h (.inl ⟨rfl, ba_of_list h2⟩)
    · rw [if_neg h2]
      by_cases h3 : t.data.toList = tL
      · rw [if_pos h3]
        exact seq_past w g s F false t h (.inr ⟨rfl, ba_of_list h3⟩)
      · rw [if_neg h3]
        have := seq_back w g s F n t h hf hn ht HT (fun e => h1 (by rw [e])) (fun e => h2 (by rw [e])) (fun e => h3 (by rw [e]))
        refine this.mono ?_
        rintro e w' ⟨rfl, hs, hm⟩
        by_cases hb : backOk t.data.toList = true
        · rw [if_pos hb] at hs
          rw [if_pos hb, hb]
          exact ⟨rfl, hs, hm⟩
        · rw [if_neg hb] at hs
          rw [if_neg hb]
          exact ⟨by rw [Bool.eq_false_iff.mpr hb], hs, hm⟩
end Go.Proofs.YtmdeehblmkpddaaDoor.Hand

namespace Go.Proofs.YtmdeehblmkpddaaDoor.Hand
open Go.RowKit Go.Proofs.YtmdeehblmkpddaaDoorW.PrintWords Go.Proofs.YtmdeehblmkpddaaDoorW.PrintLast
set_option linter.unusedVariables false
set_option linter.unusedSimpArgs false
def SM.line (s : SM) : SM := { s with row := s.row + 1, rows := if s.row + 1 = s.rows.length then s.rows ++ [[]] else s.rows }
def SM.char (s : SM) (c : Int) : SM × Bool :=
  if prn c = true then (s.show c, true)
  else if c = 13 then ({ s with col := 0 }, true)
  else if c = 10 then (s.line, true)
  else if c = 7 then ({ s with bells := s.bells + 1 }, true)
  else (s, false)
theorem info_row : (Tryd.prog.info? 78).map (fun i => (i.zero, i.size, i.bytes)) = some (some (.slice none 0 0), 1, 24) := by kernel_rfl
/-- One row more, empty. -/
theorem ScrX.line {W w2 : World} {g : Nat} {s : SM} {vr vw v' : Value} {vs : List Value} {who : Nat → Nat} {F : Nat → Prop} (h : ScrX none W g s vr vw vs who F)
    (hv : IRow w2 v' (vs ++ [.slice none 0 0])) (hg : W.grownBy w2 vr.ownBlock) (hb : v'.ownBlock = vr.ownBlock ∨ v'.ownBlock = some W.heap.size) :
    Scr (w2.setCell ⟨g, 0, none⟩ v') g { s with rows := s.rows ++ [[]] } (Fnew F W (w2.setCell ⟨g, 0, none⟩ v')) ∧ Mod F W (w2.setCell ⟨g, 0, none⟩ v') := by
  have hsz : (w2.setCell ⟨g, 0, none⟩ v').heap.size = w2.heap.size := by simp
  have hs1 := hg.size
  have hk : ∀ b, F b → who b ≠ 1 → w2.heap[b]? = W.heap[b]? := fun b hf hne => hg.block b (h.lt b hf) (fun e => hne (h.g1 b e.symm).1)
  have hk2 : ∀ b, F b → who b ≠ 1 → who b ≠ 0 → (w2.setCell ⟨g, 0, none⟩ v').heap[b]? = W.heap[b]? := fun b hf h1 h0 =>
    (Below.heap_setCell w2 _ v' b (fun e => h0 (by rw [show b = g from e]; exact h.g0))).trans (hk b hf h1)
  have hvg : ∀ b, v'.ownBlock = some b → b ≠ g := fun b e e2 => by
    subst e2
    rcases hb with h1 | h1
    · rw [h1] at e
      have := (h.g1 _ e).1
      rw [h.g0] at this
      cases this
    · rw [h1] at e
      have := h.lt _ h.fg
      have := Option.some.inj e
      omega
  have hm1 : Mod F W w2 := Mod.ofGrown hg (fun b e => (h.g1 b e).2)
  have hm2 := hm1.trans (Mod.ofSet (F := F) w2 g 0 v' h.fg) (fun _ _ h => h)
  refine ⟨⟨v', vw, vs ++ [.slice none 0 0], fun b => if W.heap.size ≤ b then 1 else who b, ?_⟩, hm2⟩
  have hw : ∀ b, F b → (if W.heap.size ≤ b then 1 else who b) = who b := fun b hf => by
    have := h.lt b hf
    rw [if_neg (by omega)]
  refine ⟨?_, hv.kept (fun b e => Below.heap_setCell w2 _ v' b (hvg b e)) (by omega), by simp [h.n], fun i _ v e => ?_, h.wt.kept (fun b e => ?_) (by omega), (hw g h.fg).trans h.g0, fun b e => ?_, fun b e => ?_, fun i _ v e b e2 => ?_, .inl h.fg, Fnew_id h.lt hm2.size⟩
  · exact blk_put ((hk g h.fg (by rw [h.g0]; omega)).trans h.me) 0 v' rfl
  · by_cases hi : i < vs.length
    · rw [List.getElem?_append_left hi] at e
      have : (s.rows ++ [[]]).getD i [] = s.rows.getD i [] := by
        rw [List.getD_eq_getElem?_getD, List.getD_eq_getElem?_getD, List.getElem?_append_left (by rw [← h.n]; exact hi)]
      rw [this]
      refine (h.inn i (by simp) v e).kept (fun b e2 => ?_) (by omega)
      have := h.g3 i (by simp) v e b e2
      exact hk2 b this.2 (by rw [this.1]; omega) (by rw [this.1]; omega)
    · rw [List.getElem?_append_right (by omega)] at e
      by_cases h0 : i = vs.length
      · subst h0
        rw [Nat.sub_self] at e
        obtain rfl := Option.some.inj e
        refine .inl ⟨rfl, ?_⟩
        rw [List.getD_eq_getElem?_getD, h.n, List.getElem?_append_right (Nat.le_refl _), Nat.sub_self]
        rfl
      · rw [List.getElem?_eq_none (by simp; omega)] at e
        cases e
  · have := h.g2 b e
    exact hk2 b this.2 (by rw [this.1]; omega) (by rw [this.1]; omega)
  · rcases hb with h1 | h1
    · rw [h1] at e
      have := h.g1 b e
      exact ⟨(hw b this.2).trans this.1, .inl this.2⟩
    · have hlt := hv.lt b e
      rw [h1] at e
      have e := Option.some.inj e
      refine ⟨?_, .inr ⟨by omega, by omega⟩⟩
      rw [if_pos (by omega)]
  · have := h.g2 b e
    exact ⟨(hw b this.2).trans this.1, .inl this.2⟩
  · by_cases hi : i < vs.length
    · rw [List.getElem?_append_left hi] at e
      have := h.g3 i (by simp) v e b e2
      exact ⟨(hw b this.2).trans this.1, .inl this.2⟩
    · rw [List.getElem?_append_right (by omega)] at e
      by_cases h0 : i - vs.length = 0
      · rw [h0] at e
        obtain rfl := Option.some.inj e
        cases e2
      · rw [List.getElem?_eq_none (by simp; omega)] at e
        cases e
theorem ScrX.lineF {W w2 : World} {g : Nat} {s : SM} {vr vw v' : Value} {vs : List Value} {who : Nat → Nat} {F : Nat → Prop} (h : ScrX none W g s vr vw vs who F)
    (hv : IRow w2 v' (vs ++ [.slice none 0 0])) (hg : W.grownBy w2 vr.ownBlock) (hb : v'.ownBlock = vr.ownBlock ∨ v'.ownBlock = some W.heap.size) :
    w2.cell? ⟨g, 0, none⟩ = some vr ∧ w2.frozen? ⟨g, 0, none⟩ = false ∧ Scr (w2.setCell ⟨g, 0, none⟩ v') g { s with rows := s.rows ++ [[]] } (Fnew F W (w2.setCell ⟨g, 0, none⟩ v')) ∧ Mod F W (w2.setCell ⟨g, 0, none⟩ v') := by
  have me : w2.heap[g]? = some (.cells (scrCells s vr vw) 63 (0, 0)) := (hg.block g (h.lt g h.fg) (fun e => by have := (h.g1 g e.symm).1; rw [h.g0] at this; cases this)).trans h.me
  exact ⟨(blk_cell me 0).trans rfl, blk_frozen me 0, h.line hv hg hb⟩
theorem Scr.onto {w W U : World} {g : Nat} {s : SM} {F : Nat → Prop} (h : Scr U g s (Fnew F W U)) (hs : w.heap.size ≤ W.heap.size) (hF : ∀ b, F b → b < w.heap.size) (hU : w.heap.size ≤ U.heap.size) : Scr U g s (Fnew F w U) := by
  obtain ⟨vr, vw, vs, who, h⟩ := h
  exact ⟨vr, vw, vs, who, h.wider (fun b hb => hb.elim .inl (fun h => .inr ⟨by omega, h.2⟩)) (Fnew_id hF hU)⟩
theorem prnS_calls (c : Int) (w : World) : Calls Tryd.prog 18 #[.int .i64 c] w fun e w' => e = .returned (.bool (prn c)) ∧ Below w.heap.size w w' :=
  PPrintable.utf_Printable.calls 3 c _ w (prn_eq c 2)
theorem Scr.after {w w1 : World} {g : Nat} {s : SM} {F : Nat → Prop} (h : Scr w1 g s F) (hs : w.heap.size ≤ w1.heap.size) (hF : ∀ b, F b → b < w.heap.size) : Scr w1 g s (Fnew F w w1) := by
  obtain ⟨vr, vw, vs, who, h⟩ := h
  exact ⟨vr, vw, vs, who, h.wider (fun b hb => .inl hb) (Fnew_id hF hs)⟩
theorem Scr.lt {w : World} {g : Nat} {s : SM} {F : Nat → Prop} (h : Scr w g s F) : ∀ b, F b → b < w.heap.size := by
  obtain ⟨vr, vw, vs, who, h⟩ := h
  exact h.lt
theorem char_prn (w : World) (g : Nat) (s : SM) (F : Nat → Prop) (n : Nat) (c : Int) (h : Scr w g s F) (hf : s.Fine n) (hn : n ≤ 1000000) (hc0 : 0 ≤ c) (hc1 : c ≤ 1114111) (hp : prn c = true) :
    Calls Tryd.prog 51 #[.pointer (some ⟨g, 0, none⟩), .int .i64 c] w fun e w' => e = .returned (.bool true) ∧ Scr w' g (s.show c) (Fnew F w w') ∧ Mod F w w' := by
  have HP := prnS_calls c w
  rw [hp] at HP
  go_enter Tryd.func51, Tryd.ntmps51
  go_wp2_with (fail)
  refine HP.mono ?_
  rintro e w1 ⟨rfl, hb⟩
  have hs := Aside0.mk (h.below hb)
  have hbA := Aside0.mk hb
  have hl := h.lt
  clear HP hb h
  go_wp2_with (fail)
  refine (show_ok w1 g s F c n hs.out hf hn).mono ?_
  rintro e w2 ⟨rfl, hs2, hm2⟩
  have hfin := Aside0.mk (And.intro (hs2.onto hbA.out.size hl (Nat.le_trans hbA.out.size hm2.size)) ((Mod.ofBelow hbA.out).trans hm2 (fun _ _ h => h)))
  clear hs2 hm2 hs
  go_wp2_with (fail)
  go_ret
  exact ⟨rfl, hfin.out.1, hfin.out.2⟩
set_option maxHeartbeats 4000000 in
set_option maxRecDepth 100000 in
theorem char_ctl (w : World) (g : Nat) (s : SM) (F : Nat → Prop) (n : Nat) (c : Int) (h : Scr w g s F) (hf : s.Fine n) (hn : n ≤ 1000000) (hp : prn c = false) :
    Calls Tryd.prog 51 #[.pointer (some ⟨g, 0, none⟩), .int .i64 c] w fun e w' => e = .returned (.bool (s.char c).2) ∧ Scr w' g (s.char c).1 (Fnew F w w') ∧ Mod F w w' := by
  have HP := prnS_calls c w
  rw [hp] at HP
  have hch : Aside0 (s.char c = if c = 13 then ({ s with col := 0 }, true) else if c = 10 then (s.line, true) else if c = 7 then ({ s with bells := s.bells + 1 }, true) else (s, false)) := ⟨by
    unfold SM.char
    rw [if_neg (by rw [hp]; decide)]⟩
  have hl := h.lt
  have hbell := hf.bells
  have hrw := hf.row
  have hrs := hf.rows
  go_enter Tryd.func51, Tryd.ntmps51
  go_wp2_with (fail)
  refine HP.mono ?_
  rintro e w1 ⟨rfl, hb⟩
  have hs1 := h.below hb
  obtain ⟨vr, vw, vs, who, hx⟩ := hs1
  have m1 : Mod F w w1 := Mod.ofBelow hb
  clear HP hb h hf
  by_cases h13 : c = 13
  · have hfin := Aside0.mk (Scr.field (W := w) (s' := { s with col := 0 }) hx m1 2 (.int .i64 0) rfl rfl rfl hl)
    have q2 : w1.cell? ⟨g, 2, none⟩ = some (.int .i64 s.col) := (blk_cell hx.me 2).trans rfl
    have f2 := blk_frozen hx.me 2
    have hch2 := Aside0.mk (hch.out.trans (if_pos h13))
    clear hx m1 hch
    subst h13
    go_wp2_with (fail)
    go_ret
    exact ⟨by rw [hch2.out]; rfl, by rw [hch2.out]; exact hfin.out.1, hfin.out.2⟩
  · by_cases h10 : c = 10
    · have hch2 := Aside0.mk ((hch.out.trans (if_neg h13)).trans (if_pos h10))
      have q1 : w1.cell? ⟨g, 1, none⟩ = some (.int .i64 s.row) := (blk_cell hx.me 1).trans rfl
      have f1 := blk_frozen hx.me 1
      have hx1 : ScrX none (w1.setCell ⟨g, 1, none⟩ (.int .i64 ((s.row : Int) + 1))) g { s with row := s.row + 1 } vr vw vs who F := hx.field (s' := { s with row := s.row + 1 }) 1 (.int .i64 ((s.row : Int) + 1)) rfl rfl rfl
      have m2 : Mod F w (w1.setCell ⟨g, 1, none⟩ (.int .i64 ((s.row : Int) + 1))) := m1.trans (Mod.ofSet (F := F) w1 g 1 (.int .i64 ((s.row : Int) + 1)) hx.fg) (fun _ _ h => h)
      clear hx m1 hch
      subst h10
      go_wp2_with (fail)
      generalize w1.setCell ⟨g, 1, none⟩ (.int .i64 ((s.row : Int) + 1)) = W0 at *
      have p0 : W0.cell? ⟨g, 0, none⟩ = some vr := (blk_cell hx1.me 0).trans rfl
      have p1 : W0.cell? ⟨g, 1, none⟩ = some (.int .i64 ((s.row : Int) + 1)) := (blk_cell hx1.me 1).trans rfl
      obtain ⟨A, cr, rfl, hcr, hcm⟩ := hx1.rs.slice
      have hvn : vs.length = s.rows.length := hx1.n
      rw [hvn] at p0 hx1
      have hxA := Aside0.mk hx1
      have mA := Aside0.mk m2
      clear hx1 m2
      go_quiet (fail)
      have hx3 := Aside0.mk (hxA.out.below (W := W0.drewN nq) (fun _ _ => rfl) (Nat.le_refl _))
      have m3 := Aside0.mk (mA.out.trans (Mod.ofBelow (F := F) (pw_below_drewN (Below.refl _ W0) nq)) (fun _ _ h => h))
      have p0' : (W0.drewN nq).cell? ⟨g, 0, none⟩ = some (.slice A s.rows.length cr) := p0
      clear p0 p1 hxA mA
      generalize W0.drewN nq = W3 at *
      by_cases hE : (s.row : Int) + 1 = (s.rows.length : Int)
      · obtain ⟨i0, hi, hz0, hz1, hz2⟩ := info_parts info_row
        have hx4 := Aside0.mk (hx3.out.below (W := W3.alloc (.cells #[.slice none 0 0] 78)) (fun b hf => heap_alloc_old W3 _ (hx3.out.lt b hf)) (by simp))
        have m4 := Aside0.mk (m3.out.trans (Mod.ofBelow (F := F) ((Below.refl _ W3).alloc (Nat.le_refl _) (.cells #[.slice none 0 0] 78))) (fun _ _ h => h))
        have hblk := Aside0.mk (heap_alloc_new W3 (.cells #[.slice none 0 0] 78))
        have hch3 : s.line = { s with row := s.row + 1, rows := s.rows ++ [[]] } := by
          unfold SM.line
          rw [if_pos (by omega)]
        have hrw4 : IRow (W3.alloc (.cells #[.slice none 0 0] 78)) (.slice A s.rows.length cr) vs := hx4.out.rs
        clear hx3 m3
        go_wp2_with (at_builtin; refine wpList_append_irow _ rfl _ _ 61 61 rfl 78 i0 (.slice none 0 0) 24 Tryd.underlying61 hi hz0 hz1 hz2 rfl rfl hrw4 rfl 1 [.slice none 0 0] (Src.ofSlice _ Tryd.underlying61 ⟨W3.heap.size, 0, none⟩ 1 1 [.slice none 0 0] rfl (fun j u hj => by
          match j, hj with
          | 0, hj => injection hj with hj; subst hj; exact (blk_cell hblk.out 0).trans rfl
          | j + 1, hj => simp at hj) (by simp [Value.oneCell'])) (by unfold maxLen; omega) (by omega) ?_; intro v' w5 hown hgr hbl; obtain ⟨qg, fg, hfin⟩ := hx4.out.lineF hown hgr hbl; replace hfin := Aside0.mk hfin; obtain ⟨A', cap', rfl, hc1, hc2⟩ := hown.slice; clear hown hgr hbl hc1 hc2)
        go_ret
        rw [show (vs ++ [Value.slice none 0 0]).length = s.rows.length + 1 by simp [hvn]] at hfin
        exact ⟨by rw [hch2.out]; rfl, by rw [hch2.out, hch3]; exact hfin.out.1.onto m4.out.size hl (Nat.le_trans m4.out.size hfin.out.2.size), m4.out.trans hfin.out.2 (fun _ _ h => h)⟩
      · have hfin := Aside0.mk (And.intro (Scr.after ⟨_, vw, vs, who, hx3.out⟩ m3.out.size hl) m3.out)
        have hch3 : s.line = { s with row := s.row + 1 } := by
          unfold SM.line
          rw [if_neg (by omega)]
        clear hx3 m3
        go_wp2_with (fail)
        go_ret
        exact ⟨by rw [hch2.out]; rfl, by rw [hch2.out, hch3]; exact hfin.out.1, hfin.out.2⟩
    · by_cases h7 : c = 7
      · have hch2 := Aside0.mk (((hch.out.trans (if_neg h13)).trans (if_neg h10)).trans (if_pos h7))
        have hfin := Aside0.mk (Scr.field (W := w) (s' := { s with bells := s.bells + 1 }) hx m1 4 (.int .i64 ((s.bells : Int) + 1)) rfl rfl rfl hl)
        have q4 : w1.cell? ⟨g, 4, none⟩ = some (.int .i64 s.bells) := (blk_cell hx.me 4).trans rfl
        have f4 := blk_frozen hx.me 4
        clear hx m1 hch
        subst h7
        go_wp2_with (fail)
        go_ret
        exact ⟨by rw [hch2.out]; rfl, by rw [hch2.out]; exact hfin.out.1, hfin.out.2⟩
      · have hch2 := Aside0.mk (((hch.out.trans (if_neg h13)).trans (if_neg h10)).trans (if_neg h7))
        have hfin := Aside0.mk (And.intro (Scr.after ⟨vr, vw, vs, who, hx⟩ m1.size hl) m1)
        clear hx m1 hch
        go_wp2_with (fail)
        go_ret
        exact ⟨by rw [hch2.out]; rfl, by rw [hch2.out]; exact hfin.out.1, hfin.out.2⟩
theorem char_ok (w : World) (g : Nat) (s : SM) (F : Nat → Prop) (n : Nat) (c : Int) (h : Scr w g s F) (hf : s.Fine n) (hn : n ≤ 1000000) (hc0 : 0 ≤ c) (hc1 : c ≤ 1114111) :
    Calls Tryd.prog 51 #[.pointer (some ⟨g, 0, none⟩), .int .i64 c] w fun e w' => e = .returned (.bool (s.char c).2) ∧ Scr w' g (s.char c).1 (Fnew F w w') ∧ Mod F w w' := by
  by_cases hp : prn c = true
  · have e : s.char c = (s.show c, true) := by
      unfold SM.char
      rw [if_pos hp]
    rw [e]
    exact char_prn w g s F n c h hf hn hc0 hc1 hp
  · exact char_ctl w g s F n c h hf hn (Bool.eq_false_iff.mpr hp)
end Go.Proofs.YtmdeehblmkpddaaDoor.Hand
