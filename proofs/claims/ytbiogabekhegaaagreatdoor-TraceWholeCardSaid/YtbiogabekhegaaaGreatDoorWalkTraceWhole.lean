/- Whatever stands between, what was written whole is written: the law's walk. -/
import Derived.Test.YtbiogabekhegaaaGreatDoorHandWritten07
import Derived.Test.YtbiogabekhegaaaGreatDoorHandAlive07
namespace Go.Proofs.YtbiogabekhegaaaGreatDoor.Hand
open Go.RowKit Go.Proofs.YtbiogabekhegaaaGreatDoorW.PrintWords Go.Proofs.YtbiogabekhegaaaGreatDoorW.PrintLast
open Go.Proofs.YtbiogabekhegaaaGreatDoor.PWritten (S27 S25 k27 z27 rd_T27 at_T27 k27_mk)
set_option linter.unusedVariables false
set_option linter.unusedSimpArgs false
theorem wf_u8' {n : Int} (h : (Lit.int .u8 n).wf = true) : 0 ≤ n ∧ n ≤ 255 := by
  have h1 : (decide (IntKind.u8.min ≤ n) && decide (n ≤ IntKind.u8.max)) = true := h
  have e1 : IntKind.u8.min = 0 := by decide
  have e2 : IntKind.u8.max = 255 := by decide
  rw [e1, e2] at h1
  simpa using h1
theorem row_in {w : World} {k : IntKind} {a : Option Addr} {len cap : Nat} {zs : List Int} (h : (a = none ∧ len = 0 ∧ cap = 0 ∧ zs = []) ∨ ∃ x, a = some x ∧ len ≤ cap ∧ cap ≤ maxLen ∧ zs.length = cap ∧ (∀ i, i < zs.length → w.cell? (x.add i) = some (.int k (zs.getD i 0))) ∧ ∀ n ∈ zs, (Lit.int k n).wf = true) :
    ∃ l : List Int, len = l.length ∧ Kd.C (Kd.int k) w a l.length l ∧ l.length ≤ cap ∧ cap ≤ maxLen ∧ (∀ x ∈ l, (Lit.int k x).wf = true) := by
  obtain ⟨l, hl, hr, hm, hw⟩ := ReadsInt.ofRow h
  refine ⟨l, hl, Kd.C_of_reads (d := (0 : Int)) hr, ?_, ?_, hw⟩
  · rcases h with ⟨_, h1, h2, _⟩ | ⟨x, _, h1, h2, _⟩ <;> omega
  · rcases h with ⟨_, h1, h2, _⟩ | ⟨x, _, h1, h2, _⟩
    · rw [h2]; exact Nat.zero_le _
    · exact h2
section
variable {P : Program} {ops : Array Oper} {rest : List Oper} {o : Oper} {a : Act} {Q : Exit → Act → World → Prop}
/-- append(v, x..), m elements of several cells, out of the variadic's box. -/
theorem append_cellsM {w0 W : World} (base m : Nat) (hgd : o.guard = none) (s x : Operand) (t e : TypeId) (z : Value) (size bytes : Nat)
    (ho : o.op = .call { callee := .builtin .append, args := #[s, x], argTypes := #[t, t] })
    (ht : P.underlying t = some (.slice e)) (hinfo : (P.info? e).map (fun i => (i.zero, i.size, i.bytes)) = some (some z, size, bytes)) (hz : z.cells.size = size) (hs0 : 0 < size) (hb0 : 0 < bytes)
    (v : Value) (n : Nat) (xs ys : List Value) (hs : a.eval s = v) (hx : a.eval x = .slice (some ⟨W.heap.size, 0, none⟩) m m) (hys : ys.length = m * size) (h1 : ∀ u ∈ ys, u.oneCell' = true)
    (HO : W.ownsRow base e size v n xs) (HB : Below base w0 W) (hbase : base ≤ W.heap.size) (hl : (n + m) * bytes ≤ 140737488355328)
    (h : ∀ v1 w1, w1.ownsRow base e size v1 (n + m) (xs ++ ys) → Below base w0 w1 → W.grownBy w1 v.ownBlock → wpList P ops Q rest (a.put o.dst v1) w1) :
    wpList P ops Q (o :: rest) a (W.alloc (.cells ys.toArray e)) := by
  obtain ⟨i0, hi, hzz⟩ := Option.map_eq_some_iff.1 hinfo
  simp only [Prod.mk.injEq] at hzz
  obtain ⟨hz0, hz1, hz2⟩ := hzz
  have hlen : n + m ≤ 140737488355328 := Nat.le_trans (Nat.le_mul_of_pos_right _ hb0) hl
  refine wpList_append_own_at (W.alloc (.cells ys.toArray e)) hgd s x t ho base e i0 z size bytes ht hi hz0 hz1 hz2 hz hs0 v n xs hs (HO.alloc _) ⟨W.heap.size, 0, none⟩ m m ys hx hys
    (by simpa using World.news_of_block (cs := ys.toArray) (t := e) (fr := (0, 0)) (heap_alloc_new W (.cells ys.toArray e))) h1 (by simp only [maxLen]; omega) hl (by simp; omega) ?_
  intro v1 w1 hown hg _ hat
  exact h v1 w1 hown ((HB.alloc hbase _).grown hg (by simp; omega) (own_base HO)) (World.grownBy.trans (World.grownBy_alloc W _ _) hg)
end
theorem info27 : (Tryz.prog.info? 27).map (fun i => (i.zero, i.size, i.bytes)) = some (some (.agg #[.int .i64 0, .int .u32 0, .int .u8 0, .int .u8 0, .slice none 0 0, .int .i64 0, .bool false]), 7, 56) := by kernel_rfl
/-- An element that reads as E wherever w's blocks stand. -/
def KB (w : World) (p : S27) (cs : List Value) : Prop := ∀ W, Below w.heap.size w W → k27.K W p cs
theorem kb_mk {w : World} (E : S27) (A : Option Addr) (c : Nat) (hc : E.f2.length ≤ c) (h : Kd.C (Kd.int .u8) w A E.f2.length E.f2) : KB w E (effV E A c).toList := fun W hb => k27_mk W E hc (Kd.C_below h hb)
/-- A row of effects of one's own, whose bytes are elder. -/
def Effs (w wr : World) (v : Value) (es : List S27) : Prop := OwnRow (KB w) 27 7 wr w.heap.size v es
theorem Effs.reads {w wr : World} {v : Value} {es : List S27} (h : Effs w wr v es) (hb : Below w.heap.size w wr) : ∃ A c, v = .slice A es.length c ∧ es.length ≤ c ∧ Kd.C k27 wr A es.length es := by
  obtain ⟨A, c, e, hl, hr⟩ := OwnRow.reads h
  exact ⟨A, c, e, hl, hr.imp_ (Below.refl _ _) (fun p cs hp => hp _ hb)⟩
theorem Effs.snoc {w w1 : World} {v : Value} {es : List S27} {inner cs : List Value} {ps : List S27} (hr : Reps (KB w) 7 es inner) (hp : Reps (KB w) 7 ps cs) (ho : w1.ownsRow w.heap.size 27 7 v (es.length + ps.length) (inner ++ cs)) : Effs w w1 v (es ++ ps) := by
  refine ⟨inner ++ cs, by rw [List.length_append]; exact ho, ?_⟩
  refine ⟨by rw [List.length_append, List.length_append, hr.1, hp.1]; omega, fun j q hq => ?_⟩
  rcases Nat.lt_or_ge j es.length with hj | hj
  · rw [List.getElem?_append_left hj] at hq
    have h1 : j * 7 + 7 ≤ inner.length := by rw [hr.1]; omega
    rw [List.drop_append_of_le_length (by omega), List.take_append_of_le_length (by rw [List.length_drop]; omega)]
    exact hr.2 j q hq
  · rw [List.getElem?_append_right hj] at hq
    have h2 := hp.2 (j - es.length) q hq
    have h3 : j * 7 = inner.length + (j - es.length) * 7 := by rw [hr.1]; omega
    rw [h3, ← List.drop_drop, List.drop_left]
    exact h2
theorem wr_le (es : List S27) (B : Nat) (h : ∀ e ∈ es, e.f0 = 2 → e.f2.length ≤ B) : (wrL es).length ≤ es.length * B := by
  induction es with
  | nil => simp [wrL]
  | cons e r ih =>
    have h1 := ih (fun x hx => h x (List.mem_cons_of_mem _ hx))
    have h2 : (wrE e).length ≤ B := by
      unfold wrE
      split
      · rename_i hk
        have := h e List.mem_cons_self hk
        rw [List.length_take]; omega
      · exact Nat.zero_le _
    have h3 : wrL (e :: r) = wrE e ++ wrL r := rfl
    rw [h3, List.length_append, List.length_cons, Nat.add_mul]
    omega
theorem wr_take_le (es : List S27) (B N : Nat) (hN : es.length ≤ N) (h : ∀ e ∈ es, e.f0 = 2 → e.f2.length ≤ B) (j : Nat) : (wrL (es.take j)).length ≤ N * B := by
  refine Nat.le_trans (wr_le _ B (fun e he => h e (List.mem_of_mem_take he))) (Nat.mul_le_mul_right _ ?_)
  rw [List.length_take]; omega
/-- What has been laid so far, and what is left. -/
structure Whole (zb r : List Int) (es : List S27) (j : Nat) : Prop where
  len : es.length = 2 * j
  all : wrL es ++ r = zb
  short : ∀ e ∈ es, e.f0 = 2 → e.f2.length ≤ 1000
theorem wrL_app (a b : List S27) : wrL (a ++ b) = wrL a ++ wrL b := by unfold wrL; rw [List.map_append, List.flatten_append]
theorem Whole.step {zb r : List Int} {es : List S27} {j : Nat} (h : Whole zb r es j) (k : Int) (h0 : 0 ≤ k) (h1 : k ≤ r.length) (hr : r.length ≤ 1000) {E2 : S27} (h2 : E2.f0 ≠ 2) : Whole zb (r.drop k.toNat) (es ++ [⟨2, ⟨0, 0, 0⟩, r, k, true⟩, E2]) (j + 1) := by
  refine ⟨by rw [List.length_append, h.len]; simp; omega, ?_, fun e he hk => ?_⟩
  · have e1 : wrL [⟨2, ⟨0, 0, 0⟩, r, k, true⟩, E2] = r.take k.toNat := by
      show wrE ⟨2, ⟨0, 0, 0⟩, r, k, true⟩ ++ (wrE E2 ++ []) = _
      unfold wrE
      rw [if_pos rfl, if_neg h2, List.append_nil, List.append_nil]
      congr 2
      show min k (r.length : Int) = k
      omega
    rw [wrL_app, e1, List.append_assoc, List.take_append_drop]
    exact h.all
  · rcases List.mem_append.1 he with he | he
    · exact h.short e he hk
    · simp only [List.mem_cons, List.mem_nil_iff, or_false] at he
      rcases he with rfl | rfl
      · exact hr
      · exact absurd hk h2
theorem Whole.done {zb r : List Int} {es : List S27} {j : Nat} (h : Whole zb r es j) (hr : r.length ≤ 1000) (hj : j ≤ 60) : wrL (es ++ ([⟨2, ⟨0, 0, 0⟩, r, (r.length : Int), true⟩] : List S27)) = zb ∧ (∀ t, (wrL ((es ++ ([⟨2, ⟨0, 0, 0⟩, r, (r.length : Int), true⟩] : List S27)).take t)).length ≤ 1000000000) ∧ ∀ e ∈ es ++ ([⟨2, ⟨0, 0, 0⟩, r, (r.length : Int), true⟩] : List S27), e.f0 = 2 → e.f2.length ≤ 1000000000 := by
  have hs : ∀ e ∈ es ++ ([⟨2, ⟨0, 0, 0⟩, r, (r.length : Int), true⟩] : List S27), e.f0 = 2 → e.f2.length ≤ 1000 := fun e he hk => by
    rcases List.mem_append.1 he with he | he
    · exact h.short e he hk
    · rw [List.mem_singleton.1 he]; exact hr
  refine ⟨?_, fun t => Nat.le_trans (wr_take_le _ 1000 200 (by rw [List.length_append, h.len]; simp; omega) hs t) (by omega), fun e he hk => Nat.le_trans (hs e he hk) (by omega)⟩
  have e1 : wrL [⟨2, ⟨0, 0, 0⟩, r, (r.length : Int), true⟩] = r := by
    show wrE ⟨2, ⟨0, 0, 0⟩, r, (r.length : Int), true⟩ ++ [] = _
    unfold wrE
    rw [if_pos rfl, List.append_nil]
    show r.take (min (r.length : Int) r.length).toNat = r
    rw [List.take_of_length_le (by omega)]
  rw [wrL_app, e1]
  exact h.all
theorem sameL_refl (l : List S27) : sameL l l = true := sameL_yes rfl fun j hj => by simp [sameE]
theorem effV_cells {W : World} {g : Nat} {x : S27} {A : Option Addr} {c : Nat} (H : W.heap[g]? = some (.cells (effV x A c) 27 (0, 0))) :
    (W.cell? ⟨g, 0, none⟩ = some (.int .i64 x.f0) ∧ W.cell? ⟨g, 1, none⟩ = some (.int .u32 x.f1.f0) ∧ W.cell? ⟨g, 2, none⟩ = some (.int .u8 x.f1.f1) ∧ W.cell? ⟨g, 3, none⟩ = some (.int .u8 x.f1.f2) ∧ W.cell? ⟨g, 4, none⟩ = some (.slice A x.f2.length c) ∧ W.cell? ⟨g, 5, none⟩ = some (.int .i64 x.f3) ∧ W.cell? ⟨g, 6, none⟩ = some (.bool x.f4)) ∧ True :=
  ⟨⟨blk_cell H 0, blk_cell H 1, blk_cell H 2, blk_cell H 3, blk_cell H 4, blk_cell H 5, blk_cell H 6⟩, trivial⟩
theorem reps2 {w : World} {a b : S27} {x y : List Value} (hx : KB w a x) (hy : KB w b y) : Reps (KB w) 7 [a, b] (x ++ y) := by
  have lx : x.length = 7 := k27.K_len (hx w (Below.refl _ _))
  have ly : y.length = 7 := k27.K_len (hy w (Below.refl _ _))
  refine ⟨by rw [List.length_append, lx, ly]; rfl, fun j p hj => ?_⟩
  match j, hj with
  | 0, hj =>
    obtain rfl := Option.some.inj hj
    rw [Nat.zero_mul, List.drop_zero, ← lx, List.take_left]
    exact hx
  | 1, hj =>
    obtain rfl := Option.some.inj hj
    rw [show 1 * 7 = x.length by rw [lx], List.drop_left, ← ly, List.take_length]
    exact hy
  | j + 2, hj => exact absurd hj (by simp)
theorem reps1 {w : World} {a : S27} {x : List Value} (hx : KB w a x) : Reps (KB w) 7 [a] x := by
  have lx : x.length = 7 := k27.K_len (hx w (Below.refl _ _))
  refine ⟨by rw [lx]; rfl, fun j p hj => ?_⟩
  match j, hj with
  | 0, hj =>
    obtain rfl := Option.some.inj hj
    rw [Nat.zero_mul, List.drop_zero, ← lx, List.take_length]
    exact hx
  | j + 1, hj => exact absurd hj (by simp)
theorem two_one (a0 a1 a2 a3 : Int) (A : Option Addr) (l c : Nat) (n : Int) (o : Bool) (b : S27) (B : Option Addr) (m d : Nat) : ∀ u ∈ ([.int .i64 a0, .int .u32 a1, .int .u8 a2, .int .u8 a3, .slice A l c, .int .i64 n, .bool o, .int .i64 b.f0, .int .u32 b.f1.f0, .int .u8 b.f1.f1, .int .u8 b.f1.f2, .slice B m d, .int .i64 b.f3, .bool b.f4] : List Value), u.oneCell' = true := by
  intro u hu
  simp only [List.mem_cons, List.mem_nil_iff, or_false] at hu
  rcases hu with rfl | rfl | rfl | rfl | rfl | rfl | rfl | rfl | rfl | rfl | rfl | rfl | rfl | rfl <;> rfl
theorem one_one (a0 a1 a2 a3 : Int) (A : Option Addr) (l c : Nat) (n : Int) (o : Bool) : ∀ u ∈ ([.int .i64 a0, .int .u32 a1, .int .u8 a2, .int .u8 a3, .slice A l c, .int .i64 n, .bool o] : List Value), u.oneCell' = true := by
  intro u hu
  simp only [List.mem_cons, List.mem_nil_iff, or_false] at hu
  rcases hu with rfl | rfl | rfl | rfl | rfl | rfl | rfl <;> rfl
set_option maxHeartbeats 8000000 in
set_option maxRecDepth 100000 in
theorem TraceWhole_walk (a0 : Option Addr) (len0 cap0 : Nat) (z0 : List Int) (a1 : Option Addr) (len1 cap1 : Nat) (z1 : List Int) (E2 : S27) (A2 : Option Addr) (c2 : Nat) (w : World) (HT : TabA w)
    (w0 : (a0 = none ∧ len0 = 0 ∧ cap0 = 0 ∧ z0 = []) ∨ ∃ x, a0 = some x ∧ len0 ≤ cap0 ∧ cap0 ≤ maxLen ∧ z0.length = cap0 ∧ (∀ i, i < z0.length → w.cell? (x.add i) = some (.int .u8 (z0.getD i 0))) ∧ ∀ n ∈ z0, (Lit.int .u8 n).wf = true)
    (y0 : len0 * 1 ≤ 140737488351232)
    (w1 : (a1 = none ∧ len1 = 0 ∧ cap1 = 0 ∧ z1 = []) ∨ ∃ x, a1 = some x ∧ len1 ≤ cap1 ∧ cap1 ≤ maxLen ∧ z1.length = cap1 ∧ (∀ i, i < z1.length → w.cell? (x.add i) = some (.int .u8 (z1.getD i 0))) ∧ ∀ n ∈ z1, (Lit.int .u8 n).wf = true)
    (y1 : len1 * 1 ≤ 140737488351232)
    (e2 : E2.f2.length ≤ c2) (f2 : Kd.C (Kd.int .u8) w A2 E2.f2.length E2.f2) :
    Calls Tryz.prog 3 #[.slice a0 len0 cap0, .slice a1 len1 cap1, .agg (effV E2 A2 c2)] w fun e w' => e = .returned (.bool true) ∧ Below w.heap.size w w' := by
  obtain ⟨zb, rfl, hC, hcap, hcm, hwf⟩ := row_in w0
  obtain ⟨zc, rfl, hQ, hqcap, hqm, hqwf⟩ := row_in w1
  have hCA := Aside0.mk hC
  have hQA := Aside0.mk hQ
  have hqwA := Aside0.mk (fun x hx => wf_u8' (hqwf x hx))
  have hfA := Aside0.mk f2
  clear w0 w1 z0 z1 hC hQ hwf hqwf f2 y0 y1
  have hal : Below w.heap.size w (w.alloc (.cells (effV E2 A2 c2) 27)) := (Below.refl _ w).alloc (Nat.le_refl _) _
  have HA := alive_ok _ (HT.below hal)
  have hE := Aside0.mk (heap_alloc_new w (.cells (effV E2 A2 c2) 27))
  have hB := Aside0.mk hal
  have hCB := Aside0.mk (And.intro (Kd.C_below hCA.out hal) (And.intro (Kd.C_below hQA.out hal) (Kd.C_below hfA.out hal)))
  clear hal
  go_enter Tryz.func3, Tryz.ntmps3
  go_wp2_with (fail)
  refine HA.mono ?_
  rintro e w1 ⟨rfl, hb1⟩
  have hB1 := Aside0.mk (hB.out.trans (hb1.mono hB.out.size))
  have hbA := Aside0.mk hb1
  have hE1 := Aside0.mk ((hb1.block _ (blk_lt hE.out)).trans hE.out)
  have m0 : w1.cell? ⟨w.heap.size, 0, none⟩ = some (.int .i64 E2.f0) := blk_cell hE1.out 0
  have hgl := Aside0.mk (blk_lt hE.out)
  clear HA hCA hQA hfA hb1
  by_cases hout : zb.length ≤ 1000 ∧ zc.length ≤ 60 ∧ E2.f0 ≠ 2
  · obtain ⟨h1, h2, h3⟩ := hout
    have h3' : (E2.f0 == 2) = false := beq_eq_false_iff_ne.mpr h3
    have h1' : ¬ (1000 : Int) < zb.length := by omega
    have h2' : ¬ (60 : Int) < zc.length := by omega
    have h3A := Aside0.mk h3
    clear h3
    go_wp2_with (fail)
    clear hE1 m0
    generalize w.alloc (.cells (effV E2 A2 c2) 27) = wB at *
    generalize hgw : w.heap.size = g at *
    have hgwA := Aside0.mk hgw
    clear hgw
    go_loopw [7, 8, 33] (fun v7 v8 v33 wr => ∃ (j : Nat) (A' : Option Addr) (r : List Int) (c' : Nat) (es : List S27), v33 = .int .i64 j ∧ v8 = .slice A' r.length c' ∧ Aside0 (j ≤ zc.length) ∧ Aside0 (Effs wB wr v7 es) ∧ Aside0 (Whole zb r es j) ∧ Aside0 (r.length ≤ c' ∧ Kd.C (Kd.int .u8) wB A' r.length r) ∧ Aside0 (Below wB.heap.size wB wr)) (fun _ _ v33 _ => zc.length - (intOf v33).toNat)
    case atStart => exact ⟨0, _, zb, _, [], rfl, rfl, ⟨Nat.zero_le _⟩, ⟨OwnRow.none_ _ _ _ _ _⟩, ⟨⟨rfl, rfl, fun e he => by cases he⟩⟩, ⟨hcap, hCB.out.1⟩, hbA⟩
    case round =>
      obtain ⟨j, A', r, c', es, rfl, rfl, hj, hL, hW, hr, hb⟩ := hrel
      by_cases hlt : j < zc.length
      · obtain ⟨ad, ea, hcell⟩ := Kd.at_int (Kd.C_below hCB.out.2.1 hb.out) j (by omega) (by omega)
        have hyr : 0 ≤ rd zc j ∧ rd zc j ≤ 255 := hqwA.out _ (by unfold rd; rw [List.getD_eq_getElem?_getD, Int.toNat_natCast, List.getElem?_eq_getElem hlt]; exact List.getElem_mem _)
        have hltI : (j : Int) < zc.length := by omega
        have hj0 : (0 : Int) ≤ j := by omega
        rw [Int.toNat_natCast] at hcell
        subst ea
        generalize rd zc j = y at *
        obtain ⟨hy0, hy1⟩ := hyr
        have hrl : r.length ≤ 1000 := by have := congrArg List.length hW.out.all; rw [List.length_append] at this; omega
        have hne : (r.length : Int) + 1 ≠ 0 := by omega
        have hw1 : wrap64 ((r.length : Int) + 1) = (r.length : Int) + 1 := w64 (by omega) (by omega)
        have hk : 0 ≤ y % ((r.length : Int) + 1) ∧ y % ((r.length : Int) + 1) ≤ r.length := by
          have h1 := Int.emod_nonneg y hne
          have h2 := Int.emod_lt_of_pos y (show (0 : Int) < (r.length : Int) + 1 by clear hw1; omega)
          exact ⟨h1, by clear hw1; omega⟩
        go_upto_region 9 with (fail)
        clear hw1 hcell
        generalize y % ((r.length : Int) + 1) = k at *
        generalize wrap64 ((r.length : Int) + 1) = k1 at *
        clear hne hy0 hy1
        obtain ⟨⟨m0, m1, m2, m3, m4, m5, m6⟩, _⟩ := effV_cells ((hb.out.block g hgl.out).trans hE.out)
        obtain ⟨i0, hi0, _, hsz, _⟩ := info_parts infoB
        obtain ⟨A'', hcut, hA, hC⟩ := print_drop_of (P := Tryz.prog) (Value.int .u8) 0 22 5 .i64 Tryz.underlying22 hi0 hsz A' c' r k hk.1 hk.2 hr.out.1
        have hA'' := Aside0.mk (Kd.C_of_reads (h1 := fun _ => rfl) (hA _ (Kd.reads_of_C hr.out.2)))
        clear hi0 hsz hA
        obtain ⟨inner, hown, hreps⟩ := hL.out
        have hp2 : Reps (KB wB) 7 [⟨2, ⟨0, 0, 0⟩, r, k, true⟩, E2] [.int .i64 2, .int .u32 0, .int .u8 0, .int .u8 0, .slice A' r.length c', .int .i64 k, .bool true, .int .i64 E2.f0, .int .u32 E2.f1.f0, .int .u8 E2.f1.f1, .int .u8 E2.f1.f2, .slice A2 E2.f2.length c2, .int .i64 E2.f3, .bool E2.f4] :=
          reps2 (kb_mk (w := wB) ⟨2, ⟨0, 0, 0⟩, r, k, true⟩ A' c' hr.out.1 hr.out.2) (kb_mk E2 A2 c2 e2 hCB.out.2.2)
        have hpA := Aside0.mk hp2
        have hroA := Aside0.mk (And.intro hown hreps)
        clear hp2 hown hreps
        have hel : es.length ≤ 120 := by have := hW.out.len; have := hj.out; omega
        go_wp2_with ((with_reducible refine gate_builtin (b := .append) (xs := #[.tmp 43, .tmp 48]) rfl ?_); at_builtin; refine append_cellsM (w0 := wB) wB.heap.size 2 rfl (.tmp 43) (.tmp 48) 29 27 _ 7 56 rfl Tryz.underlying29 info27 rfl (by decide) (by decide) u7 es.length inner _ rfl rfl rfl (two_one _ _ _ _ _ _ _ _ _ E2 _ _ _) hroA.out.1 hb.out hb.out.size (by omega) ?_; intro v1 w3 ho hb3 hg3)
        go_roundw
        case rel =>
          refine ⟨j + 1, A'', r.drop k.toNat, c' - k.toNat, es ++ [⟨2, ⟨0, 0, 0⟩, r, k, true⟩, E2], by go_num, by rw [List.length_drop], ⟨by omega⟩, ⟨Effs.snoc hroA.out.2 hpA.out ho⟩, ⟨hW.out.step k hk.1 hk.2 hrl h3A.out⟩, ⟨hC, hA''.out⟩, ⟨hb3⟩⟩
        case measure => simp [intOf]; omega
      · have hjm : j = zc.length := by have := hj.out; omega
        subst hjm
        have hrl : r.length ≤ 1000 := by have := congrArg List.length hW.out.all; rw [List.length_append] at this; omega
        obtain ⟨inner, hown, hreps⟩ := hL.out
        have hpA := Aside0.mk (reps1 (kb_mk (w := wB) ⟨2, ⟨0, 0, 0⟩, r, (r.length : Int), true⟩ A' c' hr.out.1 hr.out.2))
        have hroA := Aside0.mk (And.intro hown hreps)
        have hel : es.length ≤ 120 := by have := hW.out.len; omega
        have hWd := Aside0.mk (hW.out.done hrl h2)
        clear hown hreps
        clear hL hW hj
        go_wp2_with ((with_reducible refine gate_builtin (b := .append) (xs := #[.tmp 54, .tmp 59]) rfl ?_); at_builtin; refine append_cellsM (w0 := wB) wB.heap.size 1 rfl (.tmp 54) (.tmp 59) 29 27 _ 7 56 rfl Tryz.underlying29 info27 rfl (by decide) (by decide) u7 es.length inner _ rfl rfl rfl (one_one _ _ _ _ _ _ _ _ _) hroA.out.1 hb.out hb.out.size (by omega) ?_; intro v1 w3 ho hb3 hg3)
        have hEf : Effs wB w3 v1 (es ++ ([⟨2, ⟨0, 0, 0⟩, r, (r.length : Int), true⟩] : List S27)) := Effs.snoc hroA.out.2 hpA.out ho
        obtain ⟨A9, c9, rfl, hc9, hC9⟩ := hEf.reads hb3
        have hzC := Kd.C_below hCB.out.1 hb3
        have hbb := Aside0.mk (And.intro hb3 (hB.out.trans (hb3.mono (Nat.le_of_lt hgl.out))))
        clear ho hg3 hroA hpA hEf hb hCB hr hb3
        generalize es ++ ([⟨2, ⟨0, 0, 0⟩, r, (r.length : Int), true⟩] : List S27) = ES at *
        have HWr := fun W (hC : Kd.C k27 W A9 ES.length ES) => written_ok ES A9 c9 W hC hWd.out.2.1 hWd.out.2.2
        rw [hWd.out.1] at HWr
        have HSm := fun W (hC : Kd.C k27 W A9 ES.length ES) => traceSame_ok ES ES A9 A9 c9 c9 W hC hC
        rw [sameL_refl] at HSm
        generalize ES.length = N at *
        have hC9 := Kd.C_below hC9 (below_drew1 (Below.refl _ _))
        have hzC := Kd.C_below hzC (below_drew1 (Below.refl _ _))
        have hcv0 := Kd.C_string (P := Tryz.prog) (c := cap0) Tryz.underlying22 Tryz.underlying5 Tryz.underlying9 hzC
        go_region_with (first | (go_at_call 9; refine (HWr _ hC9).mono ?_; rintro e w5 ⟨v5, rfl, hR5, hb5⟩; obtain ⟨A5, c5, rfl⟩ := Kd.R_slice hR5; have hcv5 := Kd.C_string (P := Tryz.prog) (c := c5) Tryz.underlying22 Tryz.underlying5 Tryz.underlying9 (Kd.R_reads' hR5).2.2; have hcv0' := Kd.C_string (P := Tryz.prog) (c := cap0) Tryz.underlying22 Tryz.underlying5 Tryz.underlying9 (Kd.C_below hzC hb5); have hC95 := Kd.C_below hC9 hb5) | (go_at_call 10; refine (HSm _ hC95).mono ?_; rintro e w6 ⟨rfl, hb6⟩))
        all_goals
          have hfin : Below g w w6 := hbb.out.2.trans (((below_drew1 (Below.refl w3.heap.size w3)).trans (hb5.trans (hb6.mono hb5.size))).mono (Nat.le_trans (Nat.le_of_lt hgl.out) hbb.out.1.size))
          rw [← hgwA.out] at hfin
          go_wp2_with (fail)
          go_ret
          exact ⟨rfl, hfin⟩
  · have HA2 := alive_ok w1 (HT.below hB1.out)
    by_cases h1 : zb.length ≤ 1000
    · by_cases h2 : zc.length ≤ 60
      · have h3 : (E2.f0 == 2) = true := by
          have : E2.f0 = 2 := Classical.byContradiction fun h => hout ⟨h1, h2, h⟩
          rw [this]; rfl
        have h1' : ¬ (1000 : Int) < zb.length := by omega
        have h2' : ¬ (60 : Int) < zc.length := by omega
        clear hout
        go_wp2_with (fail)
        refine HA2.mono ?_
        rintro e w2 ⟨rfl, hb2⟩
        go_wp2_with (fail)
        go_ret
        exact ⟨rfl, hB1.out.trans (hb2.mono hB1.out.size)⟩
      · have h2' : (60 : Int) < zc.length := by omega
        have h1' : ¬ (1000 : Int) < zb.length := by omega
        clear hout
        go_wp2_with (fail)
        refine HA2.mono ?_
        rintro e w2 ⟨rfl, hb2⟩
        go_wp2_with (fail)
        go_ret
        exact ⟨rfl, hB1.out.trans (hb2.mono hB1.out.size)⟩
    · have h1' : (1000 : Int) < zb.length := by omega
      clear hout
      go_wp2_with (fail)
      refine HA2.mono ?_
      rintro e w2 ⟨rfl, hb2⟩
      go_wp2_with (fail)
      go_ret
      exact ⟨rfl, hB1.out.trans (hb2.mono hB1.out.size)⟩
end Go.Proofs.YtbiogabekhegaaaGreatDoor.Hand
