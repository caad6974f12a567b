/- trace.line. -/
import Derived.Test.YtbiogabekhegaaaGreatDoorHandLine07
namespace Go.Proofs.YtbiogabekhegaaaGreatDoor.Hand
open Go.RowKit Go.Proofs.YtbiogabekhegaaaGreatDoorW.PrintWords Go.Proofs.YtbiogabekhegaaaGreatDoorW.PrintLast
open Go.Proofs.YtbiogabekhegaaaGreatDoor.PWritten (S27 S25 k27 z27 rd_T27 at_T27 k27_mk)
set_option linter.unusedVariables false
set_option linter.unusedSimpArgs false
section
variable {P : Program} {ops : Array Oper} {rest : List Oper} {o : Oper} {a : Act} {Q : Exit → Act → World → Prop}
/-- append(v, x..), m elements of several cells, out of the variadic's box. -/
theorem append_cellsM {w0 W : World} (base m : Nat) (hgd : o.guard = none) (s x : Operand) (t e : TypeId) (z : Value) (size bytes : Nat)
    (ho : o.op = .call { callee := .builtin .append, args := #[s, x], argTypes := #[t, t] })
    (ht : P.underlying t = some (.slice e)) (hinfo : (P.info? e).map (fun i => (i.zero, i.size, i.bytes)) = some (some z, size, bytes)) (hz : z.cells.size = size) (hs0 : 0 < size) (hb0 : 0 < bytes)
    (v : Value) (n : Nat) (xs ys : List Value) (hs : a.eval s = v) (hx : a.eval x = .slice (some ⟨W.heap.size, 0, none⟩) m m) (hys : ys.length = m * size) (h1 : ∀ u ∈ ys, u.oneCell' = true)
    (HO : W.ownsRow base e size v n xs) (HB : Below base w0 W) (hbase : base ≤ W.heap.size) (hl : (n + m) * bytes ≤ 140737488355328)
    (h : ∀ v1 w1, w1.ownsRow base e size v1 (n + m) (xs ++ ys) → Below base w0 w1 → W.grownBy w1 v.ownBlock → wpList P ops Q rest (a.put o.dst v1) w1) :
    wpList P ops Q (o :: rest) a (W.alloc (.cells ys.toArray e)) := by
  obtain ⟨i0, hi, hzz⟩ := Option.map_eq_some_iff.1 hinfo
  simp only [Prod.mk.injEq] at hzz
  obtain ⟨hz0, hz1, hz2⟩ := hzz
  have hlen : n + m ≤ 140737488355328 := Nat.le_trans (Nat.le_mul_of_pos_right _ hb0) hl
  refine wpList_append_own_at (W.alloc (.cells ys.toArray e)) hgd s x t ho base e i0 z size bytes ht hi hz0 hz1 hz2 hz hs0 v n xs hs (HO.alloc _) ⟨W.heap.size, 0, none⟩ m m ys hx hys
    (by simpa using World.news_of_block (cs := ys.toArray) (t := e) (fr := (0, 0)) (heap_alloc_new W (.cells ys.toArray e))) h1 (by simp only [maxLen]; omega) hl (by simp; omega) ?_
  intro v1 w1 hown hg _ hat
  exact h v1 w1 hown ((HB.alloc hbase _).grown hg (by simp; omega) (own_base HO)) (World.grownBy.trans (World.grownBy_alloc W _ _) hg)
end
theorem info9s : (Tryz.prog.info? 9).map (fun i => (i.zero, i.size, i.bytes)) = some (some (.string ⟨#[]⟩), 1, 16) := by kernel_rfl
/-- What a kind's writer answers. -/
def wrK (k : Nat) (x : S27) : ByteArray := if k < 2 then textI x.f1.f0 x.f1.f1 x.f1.f2 else if k = 2 then hexB x.f2 ++ ⟨#[32]⟩ ++ itoaB x.f3 else itoaB x.f3
def lineW (k : Nat) (x : S27) : List ByteArray := [kWord k] ++ (if kWent k = true then [if x.f4 = true then okW else failW] else []) ++ (if 0 < kMore k then [wrK k x] else [])
def lineB (k : Nat) (x : S27) : ByteArray := ⟨(Lib.join ((lineW k x).map (·.data.toList)) [32]).toArray⟩
/-- What is asked of an effect that is written. -/
structure EffOk (x : S27) (A : Option Addr) (c : Nat) (w : World) : Prop where
  hc : x.f2.length ≤ c
  C : Kd.C (Kd.int .u8) w A x.f2.length x.f2
  i : inA x.f1.f0 x.f1.f1 x.f1.f2 = true
  d : ∀ y ∈ x.f2, 0 ≤ y ∧ y ≤ 255
  n0 : -9223372036854775808 ≤ x.f3
  n1 : x.f3 ≤ 9223372036854775807
  l : x.f2.length ≤ 1000000000
theorem EffOk.below {x : S27} {A : Option Addr} {c : Nat} {w W : World} (h : EffOk x A c w) (hb : Below w.heap.size w W) : EffOk x A c W := ⟨h.hc, Kd.C_below h.C hb, h.i, h.d, h.n0, h.n1, h.l⟩
theorem part_small7 (fl : Nat) (h : fl < 4294967296) : Small (partL fl) := by
  unfold partL
  split
  · exact ⟨by simp, by intro x hx; rw [List.mem_singleton.mp hx]; decide⟩
  · exact all_small fl h
theorem textI_size (a b c : Int) (h : inA a b c = true) : (textI a b c).size ≤ 2000 := by
  obtain ⟨h1, h2, h3, h4, h5, h6⟩ := (inA_iff _ _ _).1 h
  have hq : (joinV (partL a.toNat)).data.toList.length ≤ 1000 := small_join (part_small7 a.toNat (by omega)) 43
  have e := Lib.itoa_length_le (b.toNat : Int) (by omega) (by omega)
  have e' := Lib.itoa_length_le (c.toNat : Int) (by omega) (by omega)
  rw [Lib.size_eq]
  unfold textI textV wordsV itoaV
  rw [show ∀ l : List UInt8, (⟨l.toArray⟩ : ByteArray).data.toList = l from fun l => by simp, Lib.join_length]
  simp [Lib.lens] at hq e e' ⊢
  omega
theorem wrK_size (k : Nat) (x : S27) (A : Option Addr) (c : Nat) (w : World) (h : EffOk x A c w) : (wrK k x).size ≤ 2000000200 := by
  unfold wrK
  split
  · exact Nat.le_trans (textI_size _ _ _ h.i) (by omega)
  · split
    · have h1 := hexB_size x.f2 h.l
      have h2 := itoa_len x.f3 h.n0 h.n1
      rw [ByteArray.size_append, ByteArray.size_append]
      show (hexB x.f2).size + 1 + _ ≤ _
      omega
    · exact Nat.le_trans (itoa_len x.f3 h.n0 h.n1) (by omega)
def wrFn (k : Nat) : Nat := [40, 40, 49, 45, 45, 53, 53].getD k 0
/-- A row of one's own of strings. -/
abbrev StrsIn (w wr : World) (v : Value) (l : List ByteArray) : Prop := wr.ownsRow w.heap.size 9 1 v l.length (l.map Value.string)
theorem strs_one (l : List ByteArray) : ∀ u ∈ l.map Value.string, u.oneCell' = true := fun u hu => by
  obtain ⟨x, _, rfl⟩ := List.mem_map.1 hu
  rfl
theorem join_row {w wr : World} {v : Value} {l : List ByteArray} (h : StrsIn w wr v l) (h0 : 0 < l.length) (hl : l.length ≤ 10) (hj : (Lib.join (l.map (·.data.toList)) [32]).length ≤ 140737488355328) :
    Calls Tryz.prog 44 #[v, .string ⟨#[32]⟩] wr fun e w' => e = .returned (.string ⟨(Lib.join (l.map (·.data.toList)) [32]).toArray⟩) ∧ Below wr.heap.size wr w' := by
  obtain ⟨g, cap, rfl, hb, hlt⟩ := h.form h0
  have hle := own_le h
  refine Tryz.strings_Join g 0 cap l ⟨#[32]⟩ wr (fun j x hx => ?_) hlt (by omega) hle hj
  rw [Nat.zero_add]
  rw [show (⟨g, j, none⟩ : Addr) = (⟨g, 0, none⟩ : Addr).add j by rw [add_plain]]
  refine h.cells rfl j _ ?_
  rw [List.getElem?_map, hx]
  rfl
theorem join_len3 (a b c : ByteArray) (n : Nat) (ha : a.size ≤ n) (hb : b.size ≤ n) (hc : c.size ≤ n) : (Lib.join ([a, b, c].map (·.data.toList)) [32]).length ≤ 3 * n + 2 ∧ (Lib.join ([a, b].map (·.data.toList)) [32]).length ≤ 3 * n + 2 ∧ (Lib.join ([a].map (·.data.toList)) [32]).length ≤ 3 * n + 2 := by
  rw [Lib.size_eq] at ha hb hc
  simp only [List.map_cons, List.map_nil, Lib.join_cons, Lib.joinTail, List.flatten_cons, List.flatten_nil, List.length_append, List.length_cons, List.length_nil]
  omega
theorem kWr_cases (q k : Nat) (hk : k < 5) (fr : Value) (h : kWr q k = fr) : (k = 0 ∧ fr = .func (.func 40) #[] #[]) ∨ (k = 1 ∧ fr = .func (.func 40) #[] #[]) ∨ (k = 2 ∧ fr = .func (.func 49) #[] #[.pointer (some ⟨q, 0, none⟩)]) ∨ (k = 3 ∧ fr = .func (.func 45) #[] #[]) ∨ (k = 4 ∧ fr = .func (.func 45) #[] #[]) := by
  subst h
  obtain rfl | rfl | rfl | rfl | rfl : k = 0 ∨ k = 1 ∨ k = 2 ∨ k = 3 ∨ k = 4 := by omega
  · exact .inl ⟨rfl, rfl⟩
  · exact .inr (.inl ⟨rfl, rfl⟩)
  · exact .inr (.inr (.inl ⟨rfl, rfl⟩))
  · exact .inr (.inr (.inr (.inl ⟨rfl, rfl⟩)))
  · exact .inr (.inr (.inr (.inr ⟨rfl, rfl⟩)))
set_option maxHeartbeats 8000000 in
set_option maxRecDepth 100000 in
theorem line_went (k : Nat) (hk : k < 4) (q : Nat) (x : S27) (A : Option Addr) (c : Nat) (w : World) (HT : TabA w) (hx : EffOk x A c w) (hq : w.heap[q]? = some (.cells #[.func (.func 45) #[] #[]] 55 (0, 0))) :
    Calls Tryz.prog 26 #[.agg (kCells q k), .agg (effV x A c)] w fun e w' => e = .returned (.string (lineB k x)) ∧ Below w.heap.size w w' := by
  obtain ⟨xk, ⟨xf, xm, xt⟩, xd, xn, xo⟩ := x
  have hK : Aside0 (((w.alloc (.cells (kCells q k) 58)).alloc (.cells (effV ⟨xk, ⟨xf, xm, xt⟩, xd, xn, xo⟩ A c) 27)).heap[w.heap.size]? = some (.cells (kCells q k) 58 (0, 0))) := ⟨(heap_alloc_old _ _ (by simp)).trans (heap_alloc_new _ _)⟩
  have hE : Aside0 (((w.alloc (.cells (kCells q k) 58)).alloc (.cells (effV ⟨xk, ⟨xf, xm, xt⟩, xd, xn, xo⟩ A c) 27)).heap[w.heap.size + 1]? = some (.cells (effV ⟨xk, ⟨xf, xm, xt⟩, xd, xn, xo⟩ A c) 27 (0, 0))) := ⟨by
    have := heap_alloc_new (w.alloc (.cells (kCells q k) 58)) (.cells (effV ⟨xk, ⟨xf, xm, xt⟩, xd, xn, xo⟩ A c) 27)
    simpa using this⟩
  have hB := Aside0.mk (((Below.refl _ w).alloc (Nat.le_refl _) (.cells (kCells q k) 58)).alloc (by simp) (.cells (effV ⟨xk, ⟨xf, xm, xt⟩, xd, xn, xo⟩ A c) 27))
  have hq1 := Aside0.mk ((hB.out.block q (blk_lt hq)).trans hq)
  have hHT := Aside0.mk (HT.below hB.out)
  have hX := Aside0.mk (hx.below hB.out)
  have hws := Aside0.mk (wrK_size k _ A c w hx)
  clear HT hx hq
  obtain rfl | rfl | rfl | rfl : k = 0 ∨ k = 1 ∨ k = 2 ∨ k = 3 := by omega
  · cases xo
    · go_enter Tryz.func26, Tryz.ntmps26
      go_upto_region 1 with (fail)
      generalize (w.alloc _).alloc (.cells _ 27) = W1 at *
      have k0 : W1.cell? ⟨w.heap.size, 0, none⟩ = some (.string (kWord 0)) := blk_cell hK.out 0
      have k1 : W1.cell? ⟨w.heap.size, 1, none⟩ = some (.bool true) := blk_cell hK.out 1
      have hown := Aside0.mk (World.ownsRow_lit (base := W1.heap.size) (e := 9) (size := 1) W1 #[.string (kWord 0)] 1 (Nat.le_refl _) (by decide) rfl)
      have hb1 := Aside0.mk ((Below.refl W1.heap.size W1).alloc (Nat.le_refl _) (.cells #[.string (kWord 0)] 9))
      have k1' : (W1.alloc (.cells #[.string (kWord 0)] 9)).cell? ⟨w.heap.size, 1, none⟩ = some (.bool true) := blk_cell ((hb1.out.block _ (blk_lt hK.out)).trans hK.out) 1
      have k6' : (W1.alloc (.cells #[.string (kWord 0)] 9)).cell? ⟨w.heap.size + 1, 6, none⟩ = some (.bool false) := blk_cell ((hb1.out.block _ (blk_lt hE.out)).trans hE.out) 6
      go_upto_region 2 with (fail)
      generalize W1.alloc (.cells #[.string (kWord 0)] 9) = W2 at *

      go_wp2_with ((with_reducible refine gate_builtin (b := .append) (xs := #[.tmp 20, .tmp 21]) rfl ?_); at_builtin; refine append_cellsM (w0 := W1) W1.heap.size 1 rfl (.tmp 20) (.tmp 21) 67 9 (.string ⟨#[]⟩) 1 16 rfl Tryz.underlying67 info9s rfl (by decide) (by decide) _ 1 [.string (kWord 0)] [.string ⟨#[102, 97, 105, 108]⟩] rfl rfl rfl (fun u hu => by rw [List.mem_singleton.1 hu]; rfl) hown.out hb1.out (hb1.out).size (by decide) ?_; intro v1 w3 ho hb3 hg3; have hK3 := (hb3.block _ (blk_lt hK.out)).trans hK.out; have hE3 := (hb3.block _ (blk_lt hE.out)).trans hE.out; have k2 : w3.cell? ⟨w.heap.size, 2, none⟩ = some (.int .i64 3) := blk_cell hK3 2; have k3 : w3.cell? ⟨w.heap.size, 3, none⟩ = some (.func (.func 40) #[] #[]) := blk_cell hK3 3; obtain ⟨n0, n1, n2, n3, n4, n5, n6⟩ := effV_cells hE3)
      have hbb := hb3
      refine (wAttrs_ok _ A c _ (hHT.out.below hbb) hX.out.i).mono ?_
      rintro e w5 ⟨rfl, hb5⟩
      have ho5 := Aside0.mk (pw_own_below ho hb5)
      have hb55 := Aside0.mk (hb3.trans (hb5.mono hb3.size))
      clear ho hb5 hg3 hbb hb3 hK3 hE3 k0 k1 k2 k3 n0 n1 n2 n3 n4 n5 n6
      have hT : Aside0 ((wrK 0 ⟨xk, ⟨xf, xm, xt⟩, xd, xn, false⟩).size ≤ 2000000200) := hws
      go_wp2_with ((with_reducible refine gate_builtin (b := .append) (xs := #[.tmp 26, .tmp 31]) rfl ?_); at_builtin; refine append_cellsM (w0 := W1) W1.heap.size 1 rfl (.tmp 26) (.tmp 31) 67 9 (.string ⟨#[]⟩) 1 16 rfl Tryz.underlying67 info9s rfl (by decide) (by decide) v1 2 [.string (kWord 0), .string ⟨#[102, 97, 105, 108]⟩] [.string (wrK 0 ⟨xk, ⟨xf, xm, xt⟩, xd, xn, false⟩)] rfl rfl rfl (fun u hu => by rw [List.mem_singleton.1 hu]; rfl) ho5.out hb55.out (hb55.out).size (by decide) ?_; intro v2 w6 ho6 hb6 hg6)
      have hj := (join_len3 (kWord 0) failW (wrK 0 ⟨xk, ⟨xf, xm, xt⟩, xd, xn, false⟩) 2000000200 (by decide) (by decide) hT.out).1
      refine (join_row (w := W1) (l := [kWord 0, failW, wrK 0 ⟨xk, ⟨xf, xm, xt⟩, xd, xn, false⟩]) ho6 (by simp) (by simp) (by omega)).mono ?_
      rintro e w7 ⟨rfl, hb7⟩
      go_wp2_with (fail)
      go_ret
      exact ⟨rfl, hB.out.trans ((hb6.trans (hb7.mono hb6.size)).mono hB.out.size)⟩
    · go_enter Tryz.func26, Tryz.ntmps26
      go_upto_region 1 with (fail)
      generalize (w.alloc _).alloc (.cells _ 27) = W1 at *
      have k0 : W1.cell? ⟨w.heap.size, 0, none⟩ = some (.string (kWord 0)) := blk_cell hK.out 0
      have k1 : W1.cell? ⟨w.heap.size, 1, none⟩ = some (.bool true) := blk_cell hK.out 1
      have hown := Aside0.mk (World.ownsRow_lit (base := W1.heap.size) (e := 9) (size := 1) W1 #[.string (kWord 0)] 1 (Nat.le_refl _) (by decide) rfl)
      have hb1 := Aside0.mk ((Below.refl W1.heap.size W1).alloc (Nat.le_refl _) (.cells #[.string (kWord 0)] 9))
      have k1' : (W1.alloc (.cells #[.string (kWord 0)] 9)).cell? ⟨w.heap.size, 1, none⟩ = some (.bool true) := blk_cell ((hb1.out.block _ (blk_lt hK.out)).trans hK.out) 1
      have k6' : (W1.alloc (.cells #[.string (kWord 0)] 9)).cell? ⟨w.heap.size + 1, 6, none⟩ = some (.bool true) := blk_cell ((hb1.out.block _ (blk_lt hE.out)).trans hE.out) 6
      go_upto_region 2 with (fail)
      generalize W1.alloc (.cells #[.string (kWord 0)] 9) = W2 at *

      go_wp2_with ((with_reducible refine gate_builtin (b := .append) (xs := #[.tmp 15, .tmp 16]) rfl ?_); at_builtin; refine append_cellsM (w0 := W1) W1.heap.size 1 rfl (.tmp 15) (.tmp 16) 67 9 (.string ⟨#[]⟩) 1 16 rfl Tryz.underlying67 info9s rfl (by decide) (by decide) _ 1 [.string (kWord 0)] [.string ⟨#[111, 107]⟩] rfl rfl rfl (fun u hu => by rw [List.mem_singleton.1 hu]; rfl) hown.out hb1.out (hb1.out).size (by decide) ?_; intro v1 w3 ho hb3 hg3; have hK3 := (hb3.block _ (blk_lt hK.out)).trans hK.out; have hE3 := (hb3.block _ (blk_lt hE.out)).trans hE.out; have k2 : w3.cell? ⟨w.heap.size, 2, none⟩ = some (.int .i64 3) := blk_cell hK3 2; have k3 : w3.cell? ⟨w.heap.size, 3, none⟩ = some (.func (.func 40) #[] #[]) := blk_cell hK3 3; obtain ⟨n0, n1, n2, n3, n4, n5, n6⟩ := effV_cells hE3)
      have hbb := hb3
      refine (wAttrs_ok _ A c _ (hHT.out.below hbb) hX.out.i).mono ?_
      rintro e w5 ⟨rfl, hb5⟩
      have ho5 := Aside0.mk (pw_own_below ho hb5)
      have hb55 := Aside0.mk (hb3.trans (hb5.mono hb3.size))
      clear ho hb5 hg3 hbb hb3 hK3 hE3 k0 k1 k2 k3 n0 n1 n2 n3 n4 n5 n6
      have hT : Aside0 ((wrK 0 ⟨xk, ⟨xf, xm, xt⟩, xd, xn, true⟩).size ≤ 2000000200) := hws
      go_wp2_with ((with_reducible refine gate_builtin (b := .append) (xs := #[.tmp 26, .tmp 31]) rfl ?_); at_builtin; refine append_cellsM (w0 := W1) W1.heap.size 1 rfl (.tmp 26) (.tmp 31) 67 9 (.string ⟨#[]⟩) 1 16 rfl Tryz.underlying67 info9s rfl (by decide) (by decide) v1 2 [.string (kWord 0), .string ⟨#[111, 107]⟩] [.string (wrK 0 ⟨xk, ⟨xf, xm, xt⟩, xd, xn, true⟩)] rfl rfl rfl (fun u hu => by rw [List.mem_singleton.1 hu]; rfl) ho5.out hb55.out (hb55.out).size (by decide) ?_; intro v2 w6 ho6 hb6 hg6)
      have hj := (join_len3 (kWord 0) okW (wrK 0 ⟨xk, ⟨xf, xm, xt⟩, xd, xn, true⟩) 2000000200 (by decide) (by decide) hT.out).1
      refine (join_row (w := W1) (l := [kWord 0, okW, wrK 0 ⟨xk, ⟨xf, xm, xt⟩, xd, xn, true⟩]) ho6 (by simp) (by simp) (by omega)).mono ?_
      rintro e w7 ⟨rfl, hb7⟩
      go_wp2_with (fail)
      go_ret
      exact ⟨rfl, hB.out.trans ((hb6.trans (hb7.mono hb6.size)).mono hB.out.size)⟩
  · cases xo
    · go_enter Tryz.func26, Tryz.ntmps26
      go_upto_region 1 with (fail)
      generalize (w.alloc _).alloc (.cells _ 27) = W1 at *
      have k0 : W1.cell? ⟨w.heap.size, 0, none⟩ = some (.string (kWord 1)) := blk_cell hK.out 0
      have k1 : W1.cell? ⟨w.heap.size, 1, none⟩ = some (.bool true) := blk_cell hK.out 1
      have hown := Aside0.mk (World.ownsRow_lit (base := W1.heap.size) (e := 9) (size := 1) W1 #[.string (kWord 1)] 1 (Nat.le_refl _) (by decide) rfl)
      have hb1 := Aside0.mk ((Below.refl W1.heap.size W1).alloc (Nat.le_refl _) (.cells #[.string (kWord 1)] 9))
      have k1' : (W1.alloc (.cells #[.string (kWord 1)] 9)).cell? ⟨w.heap.size, 1, none⟩ = some (.bool true) := blk_cell ((hb1.out.block _ (blk_lt hK.out)).trans hK.out) 1
      have k6' : (W1.alloc (.cells #[.string (kWord 1)] 9)).cell? ⟨w.heap.size + 1, 6, none⟩ = some (.bool false) := blk_cell ((hb1.out.block _ (blk_lt hE.out)).trans hE.out) 6
      go_upto_region 2 with (fail)
      generalize W1.alloc (.cells #[.string (kWord 1)] 9) = W2 at *

      go_wp2_with ((with_reducible refine gate_builtin (b := .append) (xs := #[.tmp 20, .tmp 21]) rfl ?_); at_builtin; refine append_cellsM (w0 := W1) W1.heap.size 1 rfl (.tmp 20) (.tmp 21) 67 9 (.string ⟨#[]⟩) 1 16 rfl Tryz.underlying67 info9s rfl (by decide) (by decide) _ 1 [.string (kWord 1)] [.string ⟨#[102, 97, 105, 108]⟩] rfl rfl rfl (fun u hu => by rw [List.mem_singleton.1 hu]; rfl) hown.out hb1.out (hb1.out).size (by decide) ?_; intro v1 w3 ho hb3 hg3; have hK3 := (hb3.block _ (blk_lt hK.out)).trans hK.out; have hE3 := (hb3.block _ (blk_lt hE.out)).trans hE.out; have k2 : w3.cell? ⟨w.heap.size, 2, none⟩ = some (.int .i64 3) := blk_cell hK3 2; have k3 : w3.cell? ⟨w.heap.size, 3, none⟩ = some (.func (.func 40) #[] #[]) := blk_cell hK3 3; obtain ⟨n0, n1, n2, n3, n4, n5, n6⟩ := effV_cells hE3)
      have hbb := hb3
      refine (wAttrs_ok _ A c _ (hHT.out.below hbb) hX.out.i).mono ?_
      rintro e w5 ⟨rfl, hb5⟩
      have ho5 := Aside0.mk (pw_own_below ho hb5)
      have hb55 := Aside0.mk (hb3.trans (hb5.mono hb3.size))
      clear ho hb5 hg3 hbb hb3 hK3 hE3 k0 k1 k2 k3 n0 n1 n2 n3 n4 n5 n6
      have hT : Aside0 ((wrK 1 ⟨xk, ⟨xf, xm, xt⟩, xd, xn, false⟩).size ≤ 2000000200) := hws
      go_wp2_with ((with_reducible refine gate_builtin (b := .append) (xs := #[.tmp 26, .tmp 31]) rfl ?_); at_builtin; refine append_cellsM (w0 := W1) W1.heap.size 1 rfl (.tmp 26) (.tmp 31) 67 9 (.string ⟨#[]⟩) 1 16 rfl Tryz.underlying67 info9s rfl (by decide) (by decide) v1 2 [.string (kWord 1), .string ⟨#[102, 97, 105, 108]⟩] [.string (wrK 1 ⟨xk, ⟨xf, xm, xt⟩, xd, xn, false⟩)] rfl rfl rfl (fun u hu => by rw [List.mem_singleton.1 hu]; rfl) ho5.out hb55.out (hb55.out).size (by decide) ?_; intro v2 w6 ho6 hb6 hg6)
      have hj := (join_len3 (kWord 1) failW (wrK 1 ⟨xk, ⟨xf, xm, xt⟩, xd, xn, false⟩) 2000000200 (by decide) (by decide) hT.out).1
      refine (join_row (w := W1) (l := [kWord 1, failW, wrK 1 ⟨xk, ⟨xf, xm, xt⟩, xd, xn, false⟩]) ho6 (by simp) (by simp) (by omega)).mono ?_
      rintro e w7 ⟨rfl, hb7⟩
      go_wp2_with (fail)
      go_ret
      exact ⟨rfl, hB.out.trans ((hb6.trans (hb7.mono hb6.size)).mono hB.out.size)⟩
    · go_enter Tryz.func26, Tryz.ntmps26
      go_upto_region 1 with (fail)
      generalize (w.alloc _).alloc (.cells _ 27) = W1 at *
      have k0 : W1.cell? ⟨w.heap.size, 0, none⟩ = some (.string (kWord 1)) := blk_cell hK.out 0
      have k1 : W1.cell? ⟨w.heap.size, 1, none⟩ = some (.bool true) := blk_cell hK.out 1
      have hown := Aside0.mk (World.ownsRow_lit (base := W1.heap.size) (e := 9) (size := 1) W1 #[.string (kWord 1)] 1 (Nat.le_refl _) (by decide) rfl)
      have hb1 := Aside0.mk ((Below.refl W1.heap.size W1).alloc (Nat.le_refl _) (.cells #[.string (kWord 1)] 9))
      have k1' : (W1.alloc (.cells #[.string (kWord 1)] 9)).cell? ⟨w.heap.size, 1, none⟩ = some (.bool true) := blk_cell ((hb1.out.block _ (blk_lt hK.out)).trans hK.out) 1
      have k6' : (W1.alloc (.cells #[.string (kWord 1)] 9)).cell? ⟨w.heap.size + 1, 6, none⟩ = some (.bool true) := blk_cell ((hb1.out.block _ (blk_lt hE.out)).trans hE.out) 6
      go_upto_region 2 with (fail)
      generalize W1.alloc (.cells #[.string (kWord 1)] 9) = W2 at *

      go_wp2_with ((with_reducible refine gate_builtin (b := .append) (xs := #[.tmp 15, .tmp 16]) rfl ?_); at_builtin; refine append_cellsM (w0 := W1) W1.heap.size 1 rfl (.tmp 15) (.tmp 16) 67 9 (.string ⟨#[]⟩) 1 16 rfl Tryz.underlying67 info9s rfl (by decide) (by decide) _ 1 [.string (kWord 1)] [.string ⟨#[111, 107]⟩] rfl rfl rfl (fun u hu => by rw [List.mem_singleton.1 hu]; rfl) hown.out hb1.out (hb1.out).size (by decide) ?_; intro v1 w3 ho hb3 hg3; have hK3 := (hb3.block _ (blk_lt hK.out)).trans hK.out; have hE3 := (hb3.block _ (blk_lt hE.out)).trans hE.out; have k2 : w3.cell? ⟨w.heap.size, 2, none⟩ = some (.int .i64 3) := blk_cell hK3 2; have k3 : w3.cell? ⟨w.heap.size, 3, none⟩ = some (.func (.func 40) #[] #[]) := blk_cell hK3 3; obtain ⟨n0, n1, n2, n3, n4, n5, n6⟩ := effV_cells hE3)
      have hbb := hb3
      refine (wAttrs_ok _ A c _ (hHT.out.below hbb) hX.out.i).mono ?_
      rintro e w5 ⟨rfl, hb5⟩
      have ho5 := Aside0.mk (pw_own_below ho hb5)
      have hb55 := Aside0.mk (hb3.trans (hb5.mono hb3.size))
      clear ho hb5 hg3 hbb hb3 hK3 hE3 k0 k1 k2 k3 n0 n1 n2 n3 n4 n5 n6
      have hT : Aside0 ((wrK 1 ⟨xk, ⟨xf, xm, xt⟩, xd, xn, true⟩).size ≤ 2000000200) := hws
      go_wp2_with ((with_reducible refine gate_builtin (b := .append) (xs := #[.tmp 26, .tmp 31]) rfl ?_); at_builtin; refine append_cellsM (w0 := W1) W1.heap.size 1 rfl (.tmp 26) (.tmp 31) 67 9 (.string ⟨#[]⟩) 1 16 rfl Tryz.underlying67 info9s rfl (by decide) (by decide) v1 2 [.string (kWord 1), .string ⟨#[111, 107]⟩] [.string (wrK 1 ⟨xk, ⟨xf, xm, xt⟩, xd, xn, true⟩)] rfl rfl rfl (fun u hu => by rw [List.mem_singleton.1 hu]; rfl) ho5.out hb55.out (hb55.out).size (by decide) ?_; intro v2 w6 ho6 hb6 hg6)
      have hj := (join_len3 (kWord 1) okW (wrK 1 ⟨xk, ⟨xf, xm, xt⟩, xd, xn, true⟩) 2000000200 (by decide) (by decide) hT.out).1
      refine (join_row (w := W1) (l := [kWord 1, okW, wrK 1 ⟨xk, ⟨xf, xm, xt⟩, xd, xn, true⟩]) ho6 (by simp) (by simp) (by omega)).mono ?_
      rintro e w7 ⟨rfl, hb7⟩
      go_wp2_with (fail)
      go_ret
      exact ⟨rfl, hB.out.trans ((hb6.trans (hb7.mono hb6.size)).mono hB.out.size)⟩
  · cases xo
    · go_enter Tryz.func26, Tryz.ntmps26
      go_upto_region 1 with (fail)
      generalize (w.alloc _).alloc (.cells _ 27) = W1 at *
      have k0 : W1.cell? ⟨w.heap.size, 0, none⟩ = some (.string (kWord 2)) := blk_cell hK.out 0
      have k1 : W1.cell? ⟨w.heap.size, 1, none⟩ = some (.bool true) := blk_cell hK.out 1
      have hown := Aside0.mk (World.ownsRow_lit (base := W1.heap.size) (e := 9) (size := 1) W1 #[.string (kWord 2)] 1 (Nat.le_refl _) (by decide) rfl)
      have hb1 := Aside0.mk ((Below.refl W1.heap.size W1).alloc (Nat.le_refl _) (.cells #[.string (kWord 2)] 9))
      have k1' : (W1.alloc (.cells #[.string (kWord 2)] 9)).cell? ⟨w.heap.size, 1, none⟩ = some (.bool true) := blk_cell ((hb1.out.block _ (blk_lt hK.out)).trans hK.out) 1
      have k6' : (W1.alloc (.cells #[.string (kWord 2)] 9)).cell? ⟨w.heap.size + 1, 6, none⟩ = some (.bool false) := blk_cell ((hb1.out.block _ (blk_lt hE.out)).trans hE.out) 6
      go_upto_region 2 with (fail)
      generalize W1.alloc (.cells #[.string (kWord 2)] 9) = W2 at *

      go_wp2_with ((with_reducible refine gate_builtin (b := .append) (xs := #[.tmp 20, .tmp 21]) rfl ?_); at_builtin; refine append_cellsM (w0 := W1) W1.heap.size 1 rfl (.tmp 20) (.tmp 21) 67 9 (.string ⟨#[]⟩) 1 16 rfl Tryz.underlying67 info9s rfl (by decide) (by decide) _ 1 [.string (kWord 2)] [.string ⟨#[102, 97, 105, 108]⟩] rfl rfl rfl (fun u hu => by rw [List.mem_singleton.1 hu]; rfl) hown.out hb1.out (hb1.out).size (by decide) ?_; intro v1 w3 ho hb3 hg3; have hK3 := (hb3.block _ (blk_lt hK.out)).trans hK.out; have hE3 := (hb3.block _ (blk_lt hE.out)).trans hE.out; have k2 : w3.cell? ⟨w.heap.size, 2, none⟩ = some (.int .i64 2) := blk_cell hK3 2; have k3 : w3.cell? ⟨w.heap.size, 3, none⟩ = some (.func (.func 49) #[] #[.pointer (some ⟨q, 0, none⟩)]) := blk_cell hK3 3; obtain ⟨n0, n1, n2, n3, n4, n5, n6⟩ := effV_cells hE3)
      have hbb := hb3
      refine (wBytes_ok _ A c _ _ (hHT.out.below hbb) (hX.out.below hbb).C hX.out.d hX.out.l hX.out.n0 hX.out.n1 ((hbb.block _ (blk_lt hq1.out)).trans hq1.out)).mono ?_
      rintro e w5 ⟨rfl, hb5⟩
      have ho5 := Aside0.mk (pw_own_below ho hb5)
      have hb55 := Aside0.mk (hb3.trans (hb5.mono hb3.size))
      clear ho hb5 hg3 hbb hb3 hK3 hE3 k0 k1 k2 k3 n0 n1 n2 n3 n4 n5 n6
      have hT : Aside0 ((wrK 2 ⟨xk, ⟨xf, xm, xt⟩, xd, xn, false⟩).size ≤ 2000000200) := hws
      go_wp2_with ((with_reducible refine gate_builtin (b := .append) (xs := #[.tmp 26, .tmp 31]) rfl ?_); at_builtin; refine append_cellsM (w0 := W1) W1.heap.size 1 rfl (.tmp 26) (.tmp 31) 67 9 (.string ⟨#[]⟩) 1 16 rfl Tryz.underlying67 info9s rfl (by decide) (by decide) v1 2 [.string (kWord 2), .string ⟨#[102, 97, 105, 108]⟩] [.string (wrK 2 ⟨xk, ⟨xf, xm, xt⟩, xd, xn, false⟩)] rfl rfl rfl (fun u hu => by rw [List.mem_singleton.1 hu]; rfl) ho5.out hb55.out (hb55.out).size (by decide) ?_; intro v2 w6 ho6 hb6 hg6)
      have hj := (join_len3 (kWord 2) failW (wrK 2 ⟨xk, ⟨xf, xm, xt⟩, xd, xn, false⟩) 2000000200 (by decide) (by decide) hT.out).1
      refine (join_row (w := W1) (l := [kWord 2, failW, wrK 2 ⟨xk, ⟨xf, xm, xt⟩, xd, xn, false⟩]) ho6 (by simp) (by simp) (by omega)).mono ?_
      rintro e w7 ⟨rfl, hb7⟩
      go_wp2_with (fail)
      go_ret
      exact ⟨rfl, hB.out.trans ((hb6.trans (hb7.mono hb6.size)).mono hB.out.size)⟩
    · go_enter Tryz.func26, Tryz.ntmps26
      go_upto_region 1 with (fail)
      generalize (w.alloc _).alloc (.cells _ 27) = W1 at *
      have k0 : W1.cell? ⟨w.heap.size, 0, none⟩ = some (.string (kWord 2)) := blk_cell hK.out 0
      have k1 : W1.cell? ⟨w.heap.size, 1, none⟩ = some (.bool true) := blk_cell hK.out 1
      have hown := Aside0.mk (World.ownsRow_lit (base := W1.heap.size) (e := 9) (size := 1) W1 #[.string (kWord 2)] 1 (Nat.le_refl _) (by decide) rfl)
      have hb1 := Aside0.mk ((Below.refl W1.heap.size W1).alloc (Nat.le_refl _) (.cells #[.string (kWord 2)] 9))
      have k1' : (W1.alloc (.cells #[.string (kWord 2)] 9)).cell? ⟨w.heap.size, 1, none⟩ = some (.bool true) := blk_cell ((hb1.out.block _ (blk_lt hK.out)).trans hK.out) 1
      have k6' : (W1.alloc (.cells #[.string (kWord 2)] 9)).cell? ⟨w.heap.size + 1, 6, none⟩ = some (.bool true) := blk_cell ((hb1.out.block _ (blk_lt hE.out)).trans hE.out) 6
      go_upto_region 2 with (fail)
      generalize W1.alloc (.cells #[.string (kWord 2)] 9) = W2 at *

      go_wp2_with ((with_reducible refine gate_builtin (b := .append) (xs := #[.tmp 15, .tmp 16]) rfl ?_); at_builtin; refine append_cellsM (w0 := W1) W1.heap.size 1 rfl (.tmp 15) (.tmp 16) 67 9 (.string ⟨#[]⟩) 1 16 rfl Tryz.underlying67 info9s rfl (by decide) (by decide) _ 1 [.string (kWord 2)] [.string ⟨#[111, 107]⟩] rfl rfl rfl (fun u hu => by rw [List.mem_singleton.1 hu]; rfl) hown.out hb1.out (hb1.out).size (by decide) ?_; intro v1 w3 ho hb3 hg3; have hK3 := (hb3.block _ (blk_lt hK.out)).trans hK.out; have hE3 := (hb3.block _ (blk_lt hE.out)).trans hE.out; have k2 : w3.cell? ⟨w.heap.size, 2, none⟩ = some (.int .i64 2) := blk_cell hK3 2; have k3 : w3.cell? ⟨w.heap.size, 3, none⟩ = some (.func (.func 49) #[] #[.pointer (some ⟨q, 0, none⟩)]) := blk_cell hK3 3; obtain ⟨n0, n1, n2, n3, n4, n5, n6⟩ := effV_cells hE3)
      have hbb := hb3
      refine (wBytes_ok _ A c _ _ (hHT.out.below hbb) (hX.out.below hbb).C hX.out.d hX.out.l hX.out.n0 hX.out.n1 ((hbb.block _ (blk_lt hq1.out)).trans hq1.out)).mono ?_
      rintro e w5 ⟨rfl, hb5⟩
      have ho5 := Aside0.mk (pw_own_below ho hb5)
      have hb55 := Aside0.mk (hb3.trans (hb5.mono hb3.size))
      clear ho hb5 hg3 hbb hb3 hK3 hE3 k0 k1 k2 k3 n0 n1 n2 n3 n4 n5 n6
      have hT : Aside0 ((wrK 2 ⟨xk, ⟨xf, xm, xt⟩, xd, xn, true⟩).size ≤ 2000000200) := hws
      go_wp2_with ((with_reducible refine gate_builtin (b := .append) (xs := #[.tmp 26, .tmp 31]) rfl ?_); at_builtin; refine append_cellsM (w0 := W1) W1.heap.size 1 rfl (.tmp 26) (.tmp 31) 67 9 (.string ⟨#[]⟩) 1 16 rfl Tryz.underlying67 info9s rfl (by decide) (by decide) v1 2 [.string (kWord 2), .string ⟨#[111, 107]⟩] [.string (wrK 2 ⟨xk, ⟨xf, xm, xt⟩, xd, xn, true⟩)] rfl rfl rfl (fun u hu => by rw [List.mem_singleton.1 hu]; rfl) ho5.out hb55.out (hb55.out).size (by decide) ?_; intro v2 w6 ho6 hb6 hg6)
      have hj := (join_len3 (kWord 2) okW (wrK 2 ⟨xk, ⟨xf, xm, xt⟩, xd, xn, true⟩) 2000000200 (by decide) (by decide) hT.out).1
      refine (join_row (w := W1) (l := [kWord 2, okW, wrK 2 ⟨xk, ⟨xf, xm, xt⟩, xd, xn, true⟩]) ho6 (by simp) (by simp) (by omega)).mono ?_
      rintro e w7 ⟨rfl, hb7⟩
      go_wp2_with (fail)
      go_ret
      exact ⟨rfl, hB.out.trans ((hb6.trans (hb7.mono hb6.size)).mono hB.out.size)⟩
  · cases xo
    · go_enter Tryz.func26, Tryz.ntmps26
      go_upto_region 1 with (fail)
      generalize (w.alloc _).alloc (.cells _ 27) = W1 at *
      have k0 : W1.cell? ⟨w.heap.size, 0, none⟩ = some (.string (kWord 3)) := blk_cell hK.out 0
      have k1 : W1.cell? ⟨w.heap.size, 1, none⟩ = some (.bool true) := blk_cell hK.out 1
      have hown := Aside0.mk (World.ownsRow_lit (base := W1.heap.size) (e := 9) (size := 1) W1 #[.string (kWord 3)] 1 (Nat.le_refl _) (by decide) rfl)
      have hb1 := Aside0.mk ((Below.refl W1.heap.size W1).alloc (Nat.le_refl _) (.cells #[.string (kWord 3)] 9))
      have k1' : (W1.alloc (.cells #[.string (kWord 3)] 9)).cell? ⟨w.heap.size, 1, none⟩ = some (.bool true) := blk_cell ((hb1.out.block _ (blk_lt hK.out)).trans hK.out) 1
      have k6' : (W1.alloc (.cells #[.string (kWord 3)] 9)).cell? ⟨w.heap.size + 1, 6, none⟩ = some (.bool false) := blk_cell ((hb1.out.block _ (blk_lt hE.out)).trans hE.out) 6
      go_upto_region 2 with (fail)
      generalize W1.alloc (.cells #[.string (kWord 3)] 9) = W2 at *

      go_wp2_with ((with_reducible refine gate_builtin (b := .append) (xs := #[.tmp 20, .tmp 21]) rfl ?_); at_builtin; refine append_cellsM (w0 := W1) W1.heap.size 1 rfl (.tmp 20) (.tmp 21) 67 9 (.string ⟨#[]⟩) 1 16 rfl Tryz.underlying67 info9s rfl (by decide) (by decide) _ 1 [.string (kWord 3)] [.string ⟨#[102, 97, 105, 108]⟩] rfl rfl rfl (fun u hu => by rw [List.mem_singleton.1 hu]; rfl) hown.out hb1.out (hb1.out).size (by decide) ?_; intro v1 w3 ho hb3 hg3; have hK3 := (hb3.block _ (blk_lt hK.out)).trans hK.out; have hE3 := (hb3.block _ (blk_lt hE.out)).trans hE.out; have k2 : w3.cell? ⟨w.heap.size, 2, none⟩ = some (.int .i64 1) := blk_cell hK3 2; have k3 : w3.cell? ⟨w.heap.size, 3, none⟩ = some (.func (.func 45) #[] #[]) := blk_cell hK3 3; obtain ⟨n0, n1, n2, n3, n4, n5, n6⟩ := effV_cells hE3)
      have hbb := hb3
      refine (wCount_ok _ A c _ (hHT.out.below hbb) hX.out.n0 hX.out.n1).mono ?_
      rintro e w5 ⟨rfl, hb5⟩
      have ho5 := Aside0.mk (pw_own_below ho hb5)
      have hb55 := Aside0.mk (hb3.trans (hb5.mono hb3.size))
      clear ho hb5 hg3 hbb hb3 hK3 hE3 k0 k1 k2 k3 n0 n1 n2 n3 n4 n5 n6
      have hT : Aside0 ((wrK 3 ⟨xk, ⟨xf, xm, xt⟩, xd, xn, false⟩).size ≤ 2000000200) := hws
      go_wp2_with ((with_reducible refine gate_builtin (b := .append) (xs := #[.tmp 26, .tmp 31]) rfl ?_); at_builtin; refine append_cellsM (w0 := W1) W1.heap.size 1 rfl (.tmp 26) (.tmp 31) 67 9 (.string ⟨#[]⟩) 1 16 rfl Tryz.underlying67 info9s rfl (by decide) (by decide) v1 2 [.string (kWord 3), .string ⟨#[102, 97, 105, 108]⟩] [.string (wrK 3 ⟨xk, ⟨xf, xm, xt⟩, xd, xn, false⟩)] rfl rfl rfl (fun u hu => by rw [List.mem_singleton.1 hu]; rfl) ho5.out hb55.out (hb55.out).size (by decide) ?_; intro v2 w6 ho6 hb6 hg6)
      have hj := (join_len3 (kWord 3) failW (wrK 3 ⟨xk, ⟨xf, xm, xt⟩, xd, xn, false⟩) 2000000200 (by decide) (by decide) hT.out).1
      refine (join_row (w := W1) (l := [kWord 3, failW, wrK 3 ⟨xk, ⟨xf, xm, xt⟩, xd, xn, false⟩]) ho6 (by simp) (by simp) (by omega)).mono ?_
      rintro e w7 ⟨rfl, hb7⟩
      go_wp2_with (fail)
      go_ret
      exact ⟨rfl, hB.out.trans ((hb6.trans (hb7.mono hb6.size)).mono hB.out.size)⟩
    · go_enter Tryz.func26, Tryz.ntmps26
      go_upto_region 1 with (fail)
      generalize (w.alloc _).alloc (.cells _ 27) = W1 at *
      have k0 : W1.cell? ⟨w.heap.size, 0, none⟩ = some (.string (kWord 3)) := blk_cell hK.out 0
      have k1 : W1.cell? ⟨w.heap.size, 1, none⟩ = some (.bool true) := blk_cell hK.out 1
      have hown := Aside0.mk (World.ownsRow_lit (base := W1.heap.size) (e := 9) (size := 1) W1 #[.string (kWord 3)] 1 (Nat.le_refl _) (by decide) rfl)
      have hb1 := Aside0.mk ((Below.refl W1.heap.size W1).alloc (Nat.le_refl _) (.cells #[.string (kWord 3)] 9))
      have k1' : (W1.alloc (.cells #[.string (kWord 3)] 9)).cell? ⟨w.heap.size, 1, none⟩ = some (.bool true) := blk_cell ((hb1.out.block _ (blk_lt hK.out)).trans hK.out) 1
      have k6' : (W1.alloc (.cells #[.string (kWord 3)] 9)).cell? ⟨w.heap.size + 1, 6, none⟩ = some (.bool true) := blk_cell ((hb1.out.block _ (blk_lt hE.out)).trans hE.out) 6
      go_upto_region 2 with (fail)
      generalize W1.alloc (.cells #[.string (kWord 3)] 9) = W2 at *

      go_wp2_with ((with_reducible refine gate_builtin (b := .append) (xs := #[.tmp 15, .tmp 16]) rfl ?_); at_builtin; refine append_cellsM (w0 := W1) W1.heap.size 1 rfl (.tmp 15) (.tmp 16) 67 9 (.string ⟨#[]⟩) 1 16 rfl Tryz.underlying67 info9s rfl (by decide) (by decide) _ 1 [.string (kWord 3)] [.string ⟨#[111, 107]⟩] rfl rfl rfl (fun u hu => by rw [List.mem_singleton.1 hu]; rfl) hown.out hb1.out (hb1.out).size (by decide) ?_; intro v1 w3 ho hb3 hg3; have hK3 := (hb3.block _ (blk_lt hK.out)).trans hK.out; have hE3 := (hb3.block _ (blk_lt hE.out)).trans hE.out; have k2 : w3.cell? ⟨w.heap.size, 2, none⟩ = some (.int .i64 1) := blk_cell hK3 2; have k3 : w3.cell? ⟨w.heap.size, 3, none⟩ = some (.func (.func 45) #[] #[]) := blk_cell hK3 3; obtain ⟨n0, n1, n2, n3, n4, n5, n6⟩ := effV_cells hE3)
      have hbb := hb3
      refine (wCount_ok _ A c _ (hHT.out.below hbb) hX.out.n0 hX.out.n1).mono ?_
      rintro e w5 ⟨rfl, hb5⟩
      have ho5 := Aside0.mk (pw_own_below ho hb5)
      have hb55 := Aside0.mk (hb3.trans (hb5.mono hb3.size))
      clear ho hb5 hg3 hbb hb3 hK3 hE3 k0 k1 k2 k3 n0 n1 n2 n3 n4 n5 n6
      have hT : Aside0 ((wrK 3 ⟨xk, ⟨xf, xm, xt⟩, xd, xn, true⟩).size ≤ 2000000200) := hws
      go_wp2_with ((with_reducible refine gate_builtin (b := .append) (xs := #[.tmp 26, .tmp 31]) rfl ?_); at_builtin; refine append_cellsM (w0 := W1) W1.heap.size 1 rfl (.tmp 26) (.tmp 31) 67 9 (.string ⟨#[]⟩) 1 16 rfl Tryz.underlying67 info9s rfl (by decide) (by decide) v1 2 [.string (kWord 3), .string ⟨#[111, 107]⟩] [.string (wrK 3 ⟨xk, ⟨xf, xm, xt⟩, xd, xn, true⟩)] rfl rfl rfl (fun u hu => by rw [List.mem_singleton.1 hu]; rfl) ho5.out hb55.out (hb55.out).size (by decide) ?_; intro v2 w6 ho6 hb6 hg6)
      have hj := (join_len3 (kWord 3) okW (wrK 3 ⟨xk, ⟨xf, xm, xt⟩, xd, xn, true⟩) 2000000200 (by decide) (by decide) hT.out).1
      refine (join_row (w := W1) (l := [kWord 3, okW, wrK 3 ⟨xk, ⟨xf, xm, xt⟩, xd, xn, true⟩]) ho6 (by simp) (by simp) (by omega)).mono ?_
      rintro e w7 ⟨rfl, hb7⟩
      go_wp2_with (fail)
      go_ret
      exact ⟨rfl, hB.out.trans ((hb6.trans (hb7.mono hb6.size)).mono hB.out.size)⟩
set_option maxHeartbeats 8000000 in
set_option maxRecDepth 100000 in
theorem line_sig (k : Nat) (hk : k = 4) (q : Nat) (x : S27) (A : Option Addr) (c : Nat) (w : World) (HT : TabA w) (hx : EffOk x A c w) (hq : w.heap[q]? = some (.cells #[.func (.func 45) #[] #[]] 55 (0, 0))) :
    Calls Tryz.prog 26 #[.agg (kCells q k), .agg (effV x A c)] w fun e w' => e = .returned (.string (lineB k x)) ∧ Below w.heap.size w w' := by
  obtain ⟨xk, ⟨xf, xm, xt⟩, xd, xn, xo⟩ := x
  have hK : Aside0 (((w.alloc (.cells (kCells q k) 58)).alloc (.cells (effV ⟨xk, ⟨xf, xm, xt⟩, xd, xn, xo⟩ A c) 27)).heap[w.heap.size]? = some (.cells (kCells q k) 58 (0, 0))) := ⟨(heap_alloc_old _ _ (by simp)).trans (heap_alloc_new _ _)⟩
  have hE : Aside0 (((w.alloc (.cells (kCells q k) 58)).alloc (.cells (effV ⟨xk, ⟨xf, xm, xt⟩, xd, xn, xo⟩ A c) 27)).heap[w.heap.size + 1]? = some (.cells (effV ⟨xk, ⟨xf, xm, xt⟩, xd, xn, xo⟩ A c) 27 (0, 0))) := ⟨by
    have := heap_alloc_new (w.alloc (.cells (kCells q k) 58)) (.cells (effV ⟨xk, ⟨xf, xm, xt⟩, xd, xn, xo⟩ A c) 27)
    simpa using this⟩
  have hB := Aside0.mk (((Below.refl _ w).alloc (Nat.le_refl _) (.cells (kCells q k) 58)).alloc (by simp) (.cells (effV ⟨xk, ⟨xf, xm, xt⟩, xd, xn, xo⟩ A c) 27))
  have hq1 := Aside0.mk ((hB.out.block q (blk_lt hq)).trans hq)
  have hHT := Aside0.mk (HT.below hB.out)
  have hX := Aside0.mk (hx.below hB.out)
  have hws := Aside0.mk (wrK_size k _ A c w hx)
  clear HT hx hq
  subst hk
  go_enter Tryz.func26, Tryz.ntmps26
  go_upto_region 1 with (fail)
  generalize (w.alloc _).alloc (.cells _ 27) = W1 at *
  have k0 : W1.cell? ⟨w.heap.size, 0, none⟩ = some (.string (kWord 4)) := blk_cell hK.out 0
  have k1 : W1.cell? ⟨w.heap.size, 1, none⟩ = some (.bool false) := blk_cell hK.out 1
  have hown := Aside0.mk (World.ownsRow_lit (base := W1.heap.size) (e := 9) (size := 1) W1 #[.string (kWord 4)] 1 (Nat.le_refl _) (by decide) rfl)
  have hb1 := Aside0.mk ((Below.refl W1.heap.size W1).alloc (Nat.le_refl _) (.cells #[.string (kWord 4)] 9))
  go_upto_region 2 with (fail)

  have hbb := hb1.out
  have hK3 := (hbb.block _ (blk_lt hK.out)).trans hK.out
  have hE3 := (hbb.block _ (blk_lt hE.out)).trans hE.out
  have hW2 := Aside0.mk (show (W1.alloc (.cells #[.string (kWord 4)] 9)).heap.size = W1.heap.size + 1 by simp)
  generalize W1.alloc (.cells #[.string (kWord 4)] 9) = w3 at *
  have k1 : w3.cell? ⟨w.heap.size, 1, none⟩ = some (.bool false) := blk_cell hK3 1
  have k2 : w3.cell? ⟨w.heap.size, 2, none⟩ = some (.int .i64 1) := blk_cell hK3 2
  have k3 : w3.cell? ⟨w.heap.size, 3, none⟩ = some (.func (.func 45) #[] #[]) := blk_cell hK3 3
  obtain ⟨n0, n1, n2, n3, n4, n5, n6⟩ := effV_cells hE3
  go_wp2_with (fail)
  refine (wCount_ok _ A c _ (hHT.out.below hbb) hX.out.n0 hX.out.n1).mono ?_
  rintro e w5 ⟨rfl, hb5⟩
  have ho5 := Aside0.mk (pw_own_below hown.out hb5)
  have hb55 := Aside0.mk (hbb.trans (hb5.mono hbb.size))
  clear hb5 hbb hK3 hE3 k0 k1 k2 k3 n0 n1 n2 n3 n4 n5 n6
  go_wp2_with ((with_reducible refine gate_builtin (b := .append) (xs := #[.tmp 26, .tmp 31]) rfl ?_); at_builtin; refine append_cellsM (w0 := W1) W1.heap.size 1 rfl (.tmp 26) (.tmp 31) 67 9 (.string ⟨#[]⟩) 1 16 rfl Tryz.underlying67 info9s rfl (by decide) (by decide) _ 1 [.string (kWord 4)] [.string (wrK 4 ⟨xk, ⟨xf, xm, xt⟩, xd, xn, xo⟩)] rfl rfl rfl (fun u hu => by rw [List.mem_singleton.1 hu]; rfl) ho5.out hb55.out (hb55.out).size (by decide) ?_; intro v2 w6 ho6 hb6 hg6)
  have hj := (join_len3 (kWord 4) (wrK 4 ⟨xk, ⟨xf, xm, xt⟩, xd, xn, xo⟩) okW 2000000200 (by decide) hws.out (by decide)).2.1
  refine (join_row (w := W1) (l := [kWord 4, wrK 4 ⟨xk, ⟨xf, xm, xt⟩, xd, xn, xo⟩]) ho6 (by simp) (by simp) (by omega)).mono ?_
  rintro e w7 ⟨rfl, hb7⟩
  go_wp2_with (fail)
  go_ret
  exact ⟨rfl, hB.out.trans ((hb6.trans (hb7.mono hb6.size)).mono hB.out.size)⟩
set_option maxHeartbeats 8000000 in
set_option maxRecDepth 100000 in
theorem line_end (k : Nat) (hk : k = 5 ∨ k = 6) (q : Nat) (x : S27) (A : Option Addr) (c : Nat) (w : World) (HT : TabA w) (hx : EffOk x A c w) (hq : w.heap[q]? = some (.cells #[.func (.func 45) #[] #[]] 55 (0, 0))) :
    Calls Tryz.prog 26 #[.agg (kCells q k), .agg (effV x A c)] w fun e w' => e = .returned (.string (lineB k x)) ∧ Below w.heap.size w w' := by
  obtain ⟨xk, ⟨xf, xm, xt⟩, xd, xn, xo⟩ := x
  have hK : Aside0 (((w.alloc (.cells (kCells q k) 58)).alloc (.cells (effV ⟨xk, ⟨xf, xm, xt⟩, xd, xn, xo⟩ A c) 27)).heap[w.heap.size]? = some (.cells (kCells q k) 58 (0, 0))) := ⟨(heap_alloc_old _ _ (by simp)).trans (heap_alloc_new _ _)⟩
  have hE : Aside0 (((w.alloc (.cells (kCells q k) 58)).alloc (.cells (effV ⟨xk, ⟨xf, xm, xt⟩, xd, xn, xo⟩ A c) 27)).heap[w.heap.size + 1]? = some (.cells (effV ⟨xk, ⟨xf, xm, xt⟩, xd, xn, xo⟩ A c) 27 (0, 0))) := ⟨by
    have := heap_alloc_new (w.alloc (.cells (kCells q k) 58)) (.cells (effV ⟨xk, ⟨xf, xm, xt⟩, xd, xn, xo⟩ A c) 27)
    simpa using this⟩
  have hB := Aside0.mk (((Below.refl _ w).alloc (Nat.le_refl _) (.cells (kCells q k) 58)).alloc (by simp) (.cells (effV ⟨xk, ⟨xf, xm, xt⟩, xd, xn, xo⟩ A c) 27))
  have hq1 := Aside0.mk ((hB.out.block q (blk_lt hq)).trans hq)
  have hHT := Aside0.mk (HT.below hB.out)
  have hX := Aside0.mk (hx.below hB.out)
  have hws := Aside0.mk (wrK_size k _ A c w hx)
  clear HT hx hq
  rcases hk with rfl | rfl
  · go_enter Tryz.func26, Tryz.ntmps26
    go_upto_region 1 with (fail)
    generalize (w.alloc _).alloc (.cells _ 27) = W1 at *
    have k0 : W1.cell? ⟨w.heap.size, 0, none⟩ = some (.string (kWord 5)) := blk_cell hK.out 0
    have k1 : W1.cell? ⟨w.heap.size, 1, none⟩ = some (.bool false) := blk_cell hK.out 1
    have hown := Aside0.mk (World.ownsRow_lit (base := W1.heap.size) (e := 9) (size := 1) W1 #[.string (kWord 5)] 1 (Nat.le_refl _) (by decide) rfl)
    have hb1 := Aside0.mk ((Below.refl W1.heap.size W1).alloc (Nat.le_refl _) (.cells #[.string (kWord 5)] 9))
    go_upto_region 2 with (fail)

    have hbb := hb1.out
    have hK3 := (hbb.block _ (blk_lt hK.out)).trans hK.out
    generalize W1.alloc (.cells #[.string (kWord 5)] 9) = w3 at *
    have k1 : w3.cell? ⟨w.heap.size, 1, none⟩ = some (.bool false) := blk_cell hK3 1
    have k2 : w3.cell? ⟨w.heap.size, 2, none⟩ = some (.int .i64 0) := blk_cell hK3 2
    go_wp2_with (fail)
    have hj := (join_len3 (kWord 5) okW okW 20 (by decide) (by decide) (by decide)).2.2
    refine (join_row (w := W1) (l := [kWord 5]) hown.out (by decide) (by decide) (by omega)).mono ?_
    rintro e w7 ⟨rfl, hb7⟩
    go_wp2_with (fail)
    go_ret
    exact ⟨rfl, hB.out.trans ((hbb.trans (hb7.mono hbb.size)).mono hB.out.size)⟩
  · go_enter Tryz.func26, Tryz.ntmps26
    go_upto_region 1 with (fail)
    generalize (w.alloc _).alloc (.cells _ 27) = W1 at *
    have k0 : W1.cell? ⟨w.heap.size, 0, none⟩ = some (.string (kWord 6)) := blk_cell hK.out 0
    have k1 : W1.cell? ⟨w.heap.size, 1, none⟩ = some (.bool false) := blk_cell hK.out 1
    have hown := Aside0.mk (World.ownsRow_lit (base := W1.heap.size) (e := 9) (size := 1) W1 #[.string (kWord 6)] 1 (Nat.le_refl _) (by decide) rfl)
    have hb1 := Aside0.mk ((Below.refl W1.heap.size W1).alloc (Nat.le_refl _) (.cells #[.string (kWord 6)] 9))
    go_upto_region 2 with (fail)

    have hbb := hb1.out
    have hK3 := (hbb.block _ (blk_lt hK.out)).trans hK.out
    generalize W1.alloc (.cells #[.string (kWord 6)] 9) = w3 at *
    have k1 : w3.cell? ⟨w.heap.size, 1, none⟩ = some (.bool false) := blk_cell hK3 1
    have k2 : w3.cell? ⟨w.heap.size, 2, none⟩ = some (.int .i64 0) := blk_cell hK3 2
    go_wp2_with (fail)
    have hj := (join_len3 (kWord 6) okW okW 20 (by decide) (by decide) (by decide)).2.2
    refine (join_row (w := W1) (l := [kWord 6]) hown.out (by decide) (by decide) (by omega)).mono ?_
    rintro e w7 ⟨rfl, hb7⟩
    go_wp2_with (fail)
    go_ret
    exact ⟨rfl, hB.out.trans ((hbb.trans (hb7.mono hbb.size)).mono hB.out.size)⟩
theorem line_ok (k : Nat) (hk : k < 7) (q : Nat) (x : S27) (A : Option Addr) (c : Nat) (w : World) (HT : TabA w) (hx : EffOk x A c w) (hq : w.heap[q]? = some (.cells #[.func (.func 45) #[] #[]] 55 (0, 0))) :
    Calls Tryz.prog 26 #[.agg (kCells q k), .agg (effV x A c)] w fun e w' => e = .returned (.string (lineB k x)) ∧ Below w.heap.size w w' := by
  by_cases h4 : k < 4
  · exact line_went k h4 q x A c w HT hx hq
  · by_cases h5 : k = 4
    · exact line_sig k h5 q x A c w HT hx hq
    · exact line_end k (by omega) q x A c w HT hx hq
end Go.Proofs.YtbiogabekhegaaaGreatDoor.Hand

namespace Go.Proofs.YtbiogabekhegaaaGreatDoor.Hand
open Go.RowKit Go.Proofs.YtbiogabekhegaaaGreatDoorW.PrintWords Go.Proofs.YtbiogabekhegaaaGreatDoorW.PrintLast
open Go.Proofs.YtbiogabekhegaaaGreatDoor.PWritten (S27 S25 k27 z27 rd_T27 at_T27 k27_mk)
set_option linter.unusedVariables false
set_option linter.unusedSimpArgs false
def bareE (x : S27) : S27 := ⟨x.f0, if x.f0 = 0 ∨ x.f0 = 1 then x.f1 else ⟨0, 0, 0⟩, if x.f0 = 2 then x.f2 else [], if x.f0 = 2 ∨ x.f0 = 3 ∨ x.f0 = 4 then x.f3 else 0, if 0 ≤ x.f0 ∧ x.f0 ≤ 3 then x.f4 else false⟩
def BarePost (x : S27) (w : World) (e : Ending) (w' : World) : Prop := ∃ (A' : Option Addr) (c' : Nat), e = .returned (.agg (effV (bareE x) A' c')) ∧ (bareE x).f2.length ≤ c' ∧ Kd.C (Kd.int .u8) w' A' (bareE x).f2.length (bareE x).f2 ∧ Below w.heap.size w w'
set_option maxHeartbeats 8000000 in
set_option maxRecDepth 100000 in
theorem bare_ok (x : S27) (A : Option Addr) (c : Nat) (w : World) (hc : x.f2.length ≤ c) (hC : Kd.C (Kd.int .u8) w A x.f2.length x.f2) : Calls Tryz.prog 25 #[.agg (effV x A c)] w (BarePost x w) := by
  obtain ⟨xk, ⟨xf, xm, xt⟩, xd, xn, xo⟩ := x
  have hE0 : Aside0 ((((w.alloc (.cells (effV ⟨xk, ⟨xf, xm, xt⟩, xd, xn, xo⟩ A c) 27)).alloc (.cells #[.int .i64 0, .int .u32 0, .int .u8 0, .int .u8 0, .slice none 0 0, .int .i64 0, .bool false] 27)).alloc (.cells #[.int .i64 xk, .int .u32 0, .int .u8 0, .int .u8 0, .slice none 0 0, .int .i64 0, .bool false] 27)).heap[w.heap.size]? = some (.cells (effV ⟨xk, ⟨xf, xm, xt⟩, xd, xn, xo⟩ A c) 27 (0, 0))) := ⟨(heap_alloc_old _ _ (by simp; omega)).trans ((heap_alloc_old _ _ (by simp)).trans (heap_alloc_new _ _))⟩
  have hE1 : Aside0 ((((w.alloc (.cells (effV ⟨xk, ⟨xf, xm, xt⟩, xd, xn, xo⟩ A c) 27)).alloc (.cells #[.int .i64 0, .int .u32 0, .int .u8 0, .int .u8 0, .slice none 0 0, .int .i64 0, .bool false] 27)).alloc (.cells #[.int .i64 xk, .int .u32 0, .int .u8 0, .int .u8 0, .slice none 0 0, .int .i64 0, .bool false] 27)).heap[w.heap.size + 1]? = some (.cells #[.int .i64 0, .int .u32 0, .int .u8 0, .int .u8 0, .slice none 0 0, .int .i64 0, .bool false] 27 (0, 0))) := ⟨(heap_alloc_old _ _ (by simp)).trans (by
    have := heap_alloc_new (w.alloc (.cells (effV ⟨xk, ⟨xf, xm, xt⟩, xd, xn, xo⟩ A c) 27)) (.cells #[.int .i64 0, .int .u32 0, .int .u8 0, .int .u8 0, .slice none 0 0, .int .i64 0, .bool false] 27)
    simpa using this)⟩
  have hE2 : Aside0 ((((w.alloc (.cells (effV ⟨xk, ⟨xf, xm, xt⟩, xd, xn, xo⟩ A c) 27)).alloc (.cells #[.int .i64 0, .int .u32 0, .int .u8 0, .int .u8 0, .slice none 0 0, .int .i64 0, .bool false] 27)).alloc (.cells #[.int .i64 xk, .int .u32 0, .int .u8 0, .int .u8 0, .slice none 0 0, .int .i64 0, .bool false] 27)).heap[w.heap.size + 1 + 1]? = some (.cells #[.int .i64 xk, .int .u32 0, .int .u8 0, .int .u8 0, .slice none 0 0, .int .i64 0, .bool false] 27 (0, 0))) := ⟨by
    have := heap_alloc_new ((w.alloc (.cells (effV ⟨xk, ⟨xf, xm, xt⟩, xd, xn, xo⟩ A c) 27)).alloc (.cells #[.int .i64 0, .int .u32 0, .int .u8 0, .int .u8 0, .slice none 0 0, .int .i64 0, .bool false] 27)) (.cells #[.int .i64 xk, .int .u32 0, .int .u8 0, .int .u8 0, .slice none 0 0, .int .i64 0, .bool false] 27)
    simpa using this⟩
  have hB := Aside0.mk ((((Below.refl _ w).alloc (Nat.le_refl _) (.cells (effV ⟨xk, ⟨xf, xm, xt⟩, xd, xn, xo⟩ A c) 27)).alloc (by simp) (.cells #[.int .i64 0, .int .u32 0, .int .u8 0, .int .u8 0, .slice none 0 0, .int .i64 0, .bool false] 27)).alloc (by simp; omega) (.cells #[.int .i64 xk, .int .u32 0, .int .u8 0, .int .u8 0, .slice none 0 0, .int .i64 0, .bool false] 27))
  have hCA := Aside0.mk (And.intro hc hC)
  clear hc hC
  go_enter Tryz.func25, Tryz.ntmps25
  go_upto_region 2 with (fail)
  generalize ((w.alloc _).alloc _).alloc (.cells _ 27) = W at *
  obtain ⟨m0, m1, m2, m3, m4, m5, m6⟩ := effV_cells hE0.out
  obtain ⟨z0, z1, z2, z3, z4, z5, z6⟩ : _ ∧ _ ∧ _ ∧ _ ∧ _ ∧ _ ∧ _ := ⟨blk_frozen hE2.out 0, blk_frozen hE2.out 1, blk_frozen hE2.out 2, blk_frozen hE2.out 3, blk_frozen hE2.out 4, blk_frozen hE2.out 5, blk_frozen hE2.out 6⟩
  have d1 := (blk_cell hE2.out 1).trans rfl
  have d2 := (blk_cell hE2.out 2).trans rfl
  have d3 := (blk_cell hE2.out 3).trans rfl
  have d4 := (blk_cell hE2.out 4).trans rfl
  have d5 := (blk_cell hE2.out 5).trans rfl
  have d6 := (blk_cell hE2.out 6).trans rfl
  by_cases h0 : xk = 0
  · subst h0
    have hF2 : Aside0 ((((((W.setCell ⟨w.heap.size + 1 + 1, 1, none⟩ (.int .u32 xf)).setCell ⟨w.heap.size + 1 + 1, 2, none⟩ (.int .u8 xm)).setCell ⟨w.heap.size + 1 + 1, 3, none⟩ (.int .u8 xt)).setCell ⟨w.heap.size + 1 + 1, 6, none⟩ (.bool xo)).drew).heap[w.heap.size + 1 + 1]? = some (.cells #[.int .i64 0, .int .u32 xf, .int .u8 xm, .int .u8 xt, .slice none 0 0, .int .i64 0, .bool xo] 27 (0, 0))) := ⟨(blk_put (cs := #[.int .i64 0, .int .u32 xf, .int .u8 xm, .int .u8 xt, .slice none 0 0, .int .i64 0, .bool false]) (blk_put (cs := #[.int .i64 0, .int .u32 xf, .int .u8 xm, .int .u8 0, .slice none 0 0, .int .i64 0, .bool false]) (blk_put (cs := #[.int .i64 0, .int .u32 xf, .int .u8 0, .int .u8 0, .slice none 0 0, .int .i64 0, .bool false]) (blk_put (cs := #[.int .i64 0, .int .u32 0, .int .u8 0, .int .u8 0, .slice none 0 0, .int .i64 0, .bool false]) hE2.out 1 _ rfl) 2 _ rfl) 3 _ rfl) 6 _ rfl)⟩
    have hF1 : Aside0 ((((((W.setCell ⟨w.heap.size + 1 + 1, 1, none⟩ (.int .u32 xf)).setCell ⟨w.heap.size + 1 + 1, 2, none⟩ (.int .u8 xm)).setCell ⟨w.heap.size + 1 + 1, 3, none⟩ (.int .u8 xt)).setCell ⟨w.heap.size + 1 + 1, 6, none⟩ (.bool xo)).drew).heap[w.heap.size + 1]? = some (.cells #[.int .i64 0, .int .u32 0, .int .u8 0, .int .u8 0, .slice none 0 0, .int .i64 0, .bool false] 27 (0, 0))) := ⟨((Below.heap_setCell (((W.setCell ⟨w.heap.size + 1 + 1, 1, none⟩ (.int .u32 xf)).setCell ⟨w.heap.size + 1 + 1, 2, none⟩ (.int .u8 xm)).setCell ⟨w.heap.size + 1 + 1, 3, none⟩ (.int .u8 xt)) ⟨w.heap.size + 1 + 1, 6, none⟩ (.bool xo) (w.heap.size + 1) (by simp)).trans ((Below.heap_setCell ((W.setCell ⟨w.heap.size + 1 + 1, 1, none⟩ (.int .u32 xf)).setCell ⟨w.heap.size + 1 + 1, 2, none⟩ (.int .u8 xm)) ⟨w.heap.size + 1 + 1, 3, none⟩ (.int .u8 xt) (w.heap.size + 1) (by simp)).trans ((Below.heap_setCell (W.setCell ⟨w.heap.size + 1 + 1, 1, none⟩ (.int .u32 xf)) ⟨w.heap.size + 1 + 1, 2, none⟩ (.int .u8 xm) (w.heap.size + 1) (by simp)).trans ((Below.heap_setCell W ⟨w.heap.size + 1 + 1, 1, none⟩ (.int .u32 xf) (w.heap.size + 1) (by simp)).trans hE1.out))))⟩
    have hFB : Aside0 (Below w.heap.size w (((((W.setCell ⟨w.heap.size + 1 + 1, 1, none⟩ (.int .u32 xf)).setCell ⟨w.heap.size + 1 + 1, 2, none⟩ (.int .u8 xm)).setCell ⟨w.heap.size + 1 + 1, 3, none⟩ (.int .u8 xt)).setCell ⟨w.heap.size + 1 + 1, 6, none⟩ (.bool xo)).drew)) := ⟨below_drew1 (set_below (set_below (set_below (set_below hB.out (by omega) 1 (.int .u32 xf)) (by omega) 2 (.int .u8 xm)) (by omega) 3 (.int .u8 xt)) (by omega) 6 (.bool xo))⟩
    go_wp2_with (fail)
    go_region_with (fail)
    all_goals
      generalize ((((W.setCell ⟨w.heap.size + 1 + 1, 1, none⟩ (.int .u32 xf)).setCell ⟨w.heap.size + 1 + 1, 2, none⟩ (.int .u8 xm)).setCell ⟨w.heap.size + 1 + 1, 3, none⟩ (.int .u8 xt)).setCell ⟨w.heap.size + 1 + 1, 6, none⟩ (.bool xo)).drew = W9 at *
      clear m0 m1 m2 m3 m4 m5 m6 z0 z1 z2 z3 z4 z5 z6 d1 d2 d3 d4 d5 d6
      have e0 := (blk_cell hF2.out 0).trans rfl
      have e1 := (blk_cell hF2.out 1).trans rfl
      have e2 := (blk_cell hF2.out 2).trans rfl
      have e3 := (blk_cell hF2.out 3).trans rfl
      have e4 := (blk_cell hF2.out 4).trans rfl
      have e5 := (blk_cell hF2.out 5).trans rfl
      have e6 := (blk_cell hF2.out 6).trans rfl
      have g0 := (blk_cell hF1.out 0).trans rfl
      have g1 := (blk_cell hF1.out 1).trans rfl
      have g2 := (blk_cell hF1.out 2).trans rfl
      have g3 := (blk_cell hF1.out 3).trans rfl
      have g4 := (blk_cell hF1.out 4).trans rfl
      have g5 := (blk_cell hF1.out 5).trans rfl
      have g6 := (blk_cell hF1.out 6).trans rfl
      obtain ⟨z0, z1, z2, z3, z4, z5, z6⟩ : _ ∧ _ ∧ _ ∧ _ ∧ _ ∧ _ ∧ _ := ⟨blk_frozen hF1.out 0, blk_frozen hF1.out 1, blk_frozen hF1.out 2, blk_frozen hF1.out 3, blk_frozen hF1.out 4, blk_frozen hF1.out 5, blk_frozen hF1.out 6⟩
      have hfin := Aside0.mk (set7_below hFB.out (show w.heap.size ≤ w.heap.size + 1 by omega) (.int .i64 0) (.int .u32 xf) (.int .u8 xm) (.int .u8 xt) (.slice none 0 0) (.int .i64 0) (.bool xo))
      go_wp2_with (fail)
      refine bodyPost_ret (results_cell_row rfl _ _ (w.heap.size + 1) 27 #[.int .i64 0, .int .u32 xf, .int .u8 xm, .int .u8 xt, .slice none 0 0, .int .i64 0, .bool xo] (0, 0) _ rfl (by exact blk7 hF1.out _ _ _ _ _ _ _) Tryz.underlying27 rfl (by kernel_rfl)) rfl ?_

      exact ⟨none, 0, rfl, Nat.le_refl _, Kd.C_nil _ _, hfin.out⟩
  by_cases h1 : xk = 1
  · subst h1
    have hF2 : Aside0 ((((((W.setCell ⟨w.heap.size + 1 + 1, 1, none⟩ (.int .u32 xf)).setCell ⟨w.heap.size + 1 + 1, 2, none⟩ (.int .u8 xm)).setCell ⟨w.heap.size + 1 + 1, 3, none⟩ (.int .u8 xt)).setCell ⟨w.heap.size + 1 + 1, 6, none⟩ (.bool xo)).drew).heap[w.heap.size + 1 + 1]? = some (.cells #[.int .i64 1, .int .u32 xf, .int .u8 xm, .int .u8 xt, .slice none 0 0, .int .i64 0, .bool xo] 27 (0, 0))) := ⟨(blk_put (cs := #[.int .i64 1, .int .u32 xf, .int .u8 xm, .int .u8 xt, .slice none 0 0, .int .i64 0, .bool false]) (blk_put (cs := #[.int .i64 1, .int .u32 xf, .int .u8 xm, .int .u8 0, .slice none 0 0, .int .i64 0, .bool false]) (blk_put (cs := #[.int .i64 1, .int .u32 xf, .int .u8 0, .int .u8 0, .slice none 0 0, .int .i64 0, .bool false]) (blk_put (cs := #[.int .i64 1, .int .u32 0, .int .u8 0, .int .u8 0, .slice none 0 0, .int .i64 0, .bool false]) hE2.out 1 _ rfl) 2 _ rfl) 3 _ rfl) 6 _ rfl)⟩
    have hF1 : Aside0 ((((((W.setCell ⟨w.heap.size + 1 + 1, 1, none⟩ (.int .u32 xf)).setCell ⟨w.heap.size + 1 + 1, 2, none⟩ (.int .u8 xm)).setCell ⟨w.heap.size + 1 + 1, 3, none⟩ (.int .u8 xt)).setCell ⟨w.heap.size + 1 + 1, 6, none⟩ (.bool xo)).drew).heap[w.heap.size + 1]? = some (.cells #[.int .i64 0, .int .u32 0, .int .u8 0, .int .u8 0, .slice none 0 0, .int .i64 0, .bool false] 27 (0, 0))) := ⟨((Below.heap_setCell (((W.setCell ⟨w.heap.size + 1 + 1, 1, none⟩ (.int .u32 xf)).setCell ⟨w.heap.size + 1 + 1, 2, none⟩ (.int .u8 xm)).setCell ⟨w.heap.size + 1 + 1, 3, none⟩ (.int .u8 xt)) ⟨w.heap.size + 1 + 1, 6, none⟩ (.bool xo) (w.heap.size + 1) (by simp)).trans ((Below.heap_setCell ((W.setCell ⟨w.heap.size + 1 + 1, 1, none⟩ (.int .u32 xf)).setCell ⟨w.heap.size + 1 + 1, 2, none⟩ (.int .u8 xm)) ⟨w.heap.size + 1 + 1, 3, none⟩ (.int .u8 xt) (w.heap.size + 1) (by simp)).trans ((Below.heap_setCell (W.setCell ⟨w.heap.size + 1 + 1, 1, none⟩ (.int .u32 xf)) ⟨w.heap.size + 1 + 1, 2, none⟩ (.int .u8 xm) (w.heap.size + 1) (by simp)).trans ((Below.heap_setCell W ⟨w.heap.size + 1 + 1, 1, none⟩ (.int .u32 xf) (w.heap.size + 1) (by simp)).trans hE1.out))))⟩
    have hFB : Aside0 (Below w.heap.size w (((((W.setCell ⟨w.heap.size + 1 + 1, 1, none⟩ (.int .u32 xf)).setCell ⟨w.heap.size + 1 + 1, 2, none⟩ (.int .u8 xm)).setCell ⟨w.heap.size + 1 + 1, 3, none⟩ (.int .u8 xt)).setCell ⟨w.heap.size + 1 + 1, 6, none⟩ (.bool xo)).drew)) := ⟨below_drew1 (set_below (set_below (set_below (set_below hB.out (by omega) 1 (.int .u32 xf)) (by omega) 2 (.int .u8 xm)) (by omega) 3 (.int .u8 xt)) (by omega) 6 (.bool xo))⟩
    go_wp2_with (fail)
    go_region_with (fail)
    all_goals
      generalize ((((W.setCell ⟨w.heap.size + 1 + 1, 1, none⟩ (.int .u32 xf)).setCell ⟨w.heap.size + 1 + 1, 2, none⟩ (.int .u8 xm)).setCell ⟨w.heap.size + 1 + 1, 3, none⟩ (.int .u8 xt)).setCell ⟨w.heap.size + 1 + 1, 6, none⟩ (.bool xo)).drew = W9 at *
      clear m0 m1 m2 m3 m4 m5 m6 z0 z1 z2 z3 z4 z5 z6 d1 d2 d3 d4 d5 d6
      have e0 := (blk_cell hF2.out 0).trans rfl
      have e1 := (blk_cell hF2.out 1).trans rfl
      have e2 := (blk_cell hF2.out 2).trans rfl
      have e3 := (blk_cell hF2.out 3).trans rfl
      have e4 := (blk_cell hF2.out 4).trans rfl
      have e5 := (blk_cell hF2.out 5).trans rfl
      have e6 := (blk_cell hF2.out 6).trans rfl
      have g0 := (blk_cell hF1.out 0).trans rfl
      have g1 := (blk_cell hF1.out 1).trans rfl
      have g2 := (blk_cell hF1.out 2).trans rfl
      have g3 := (blk_cell hF1.out 3).trans rfl
      have g4 := (blk_cell hF1.out 4).trans rfl
      have g5 := (blk_cell hF1.out 5).trans rfl
      have g6 := (blk_cell hF1.out 6).trans rfl
      obtain ⟨z0, z1, z2, z3, z4, z5, z6⟩ : _ ∧ _ ∧ _ ∧ _ ∧ _ ∧ _ ∧ _ := ⟨blk_frozen hF1.out 0, blk_frozen hF1.out 1, blk_frozen hF1.out 2, blk_frozen hF1.out 3, blk_frozen hF1.out 4, blk_frozen hF1.out 5, blk_frozen hF1.out 6⟩
      have hfin := Aside0.mk (set7_below hFB.out (show w.heap.size ≤ w.heap.size + 1 by omega) (.int .i64 1) (.int .u32 xf) (.int .u8 xm) (.int .u8 xt) (.slice none 0 0) (.int .i64 0) (.bool xo))
      go_wp2_with (fail)
      refine bodyPost_ret (results_cell_row rfl _ _ (w.heap.size + 1) 27 #[.int .i64 1, .int .u32 xf, .int .u8 xm, .int .u8 xt, .slice none 0 0, .int .i64 0, .bool xo] (0, 0) _ rfl (by exact blk7 hF1.out _ _ _ _ _ _ _) Tryz.underlying27 rfl (by kernel_rfl)) rfl ?_

      exact ⟨none, 0, rfl, Nat.le_refl _, Kd.C_nil _ _, hfin.out⟩
  by_cases h2 : xk = 2
  · subst h2
    have hF2 : Aside0 (((((W.setCell ⟨w.heap.size + 1 + 1, 4, none⟩ (.slice A xd.length c)).setCell ⟨w.heap.size + 1 + 1, 5, none⟩ (.int .i64 xn)).setCell ⟨w.heap.size + 1 + 1, 6, none⟩ (.bool xo)).drew).heap[w.heap.size + 1 + 1]? = some (.cells #[.int .i64 2, .int .u32 0, .int .u8 0, .int .u8 0, .slice A xd.length c, .int .i64 xn, .bool xo] 27 (0, 0))) := ⟨(blk_put (cs := #[.int .i64 2, .int .u32 0, .int .u8 0, .int .u8 0, .slice A xd.length c, .int .i64 xn, .bool false]) (blk_put (cs := #[.int .i64 2, .int .u32 0, .int .u8 0, .int .u8 0, .slice A xd.length c, .int .i64 0, .bool false]) (blk_put (cs := #[.int .i64 2, .int .u32 0, .int .u8 0, .int .u8 0, .slice none 0 0, .int .i64 0, .bool false]) hE2.out 4 _ rfl) 5 _ rfl) 6 _ rfl)⟩
    have hF1 : Aside0 (((((W.setCell ⟨w.heap.size + 1 + 1, 4, none⟩ (.slice A xd.length c)).setCell ⟨w.heap.size + 1 + 1, 5, none⟩ (.int .i64 xn)).setCell ⟨w.heap.size + 1 + 1, 6, none⟩ (.bool xo)).drew).heap[w.heap.size + 1]? = some (.cells #[.int .i64 0, .int .u32 0, .int .u8 0, .int .u8 0, .slice none 0 0, .int .i64 0, .bool false] 27 (0, 0))) := ⟨((Below.heap_setCell ((W.setCell ⟨w.heap.size + 1 + 1, 4, none⟩ (.slice A xd.length c)).setCell ⟨w.heap.size + 1 + 1, 5, none⟩ (.int .i64 xn)) ⟨w.heap.size + 1 + 1, 6, none⟩ (.bool xo) (w.heap.size + 1) (by simp)).trans ((Below.heap_setCell (W.setCell ⟨w.heap.size + 1 + 1, 4, none⟩ (.slice A xd.length c)) ⟨w.heap.size + 1 + 1, 5, none⟩ (.int .i64 xn) (w.heap.size + 1) (by simp)).trans ((Below.heap_setCell W ⟨w.heap.size + 1 + 1, 4, none⟩ (.slice A xd.length c) (w.heap.size + 1) (by simp)).trans hE1.out)))⟩
    have hFB : Aside0 (Below w.heap.size w ((((W.setCell ⟨w.heap.size + 1 + 1, 4, none⟩ (.slice A xd.length c)).setCell ⟨w.heap.size + 1 + 1, 5, none⟩ (.int .i64 xn)).setCell ⟨w.heap.size + 1 + 1, 6, none⟩ (.bool xo)).drew)) := ⟨below_drew1 (set_below (set_below (set_below hB.out (by omega) 4 (.slice A xd.length c)) (by omega) 5 (.int .i64 xn)) (by omega) 6 (.bool xo))⟩
    go_wp2_with (fail)
    go_region_with (fail)
    all_goals
      generalize (((W.setCell ⟨w.heap.size + 1 + 1, 4, none⟩ (.slice A xd.length c)).setCell ⟨w.heap.size + 1 + 1, 5, none⟩ (.int .i64 xn)).setCell ⟨w.heap.size + 1 + 1, 6, none⟩ (.bool xo)).drew = W9 at *
      clear m0 m1 m2 m3 m4 m5 m6 z0 z1 z2 z3 z4 z5 z6 d1 d2 d3 d4 d5 d6
      have e0 := (blk_cell hF2.out 0).trans rfl
      have e1 := (blk_cell hF2.out 1).trans rfl
      have e2 := (blk_cell hF2.out 2).trans rfl
      have e3 := (blk_cell hF2.out 3).trans rfl
      have e4 := (blk_cell hF2.out 4).trans rfl
      have e5 := (blk_cell hF2.out 5).trans rfl
      have e6 := (blk_cell hF2.out 6).trans rfl
      have g0 := (blk_cell hF1.out 0).trans rfl
      have g1 := (blk_cell hF1.out 1).trans rfl
      have g2 := (blk_cell hF1.out 2).trans rfl
      have g3 := (blk_cell hF1.out 3).trans rfl
      have g4 := (blk_cell hF1.out 4).trans rfl
      have g5 := (blk_cell hF1.out 5).trans rfl
      have g6 := (blk_cell hF1.out 6).trans rfl
      obtain ⟨z0, z1, z2, z3, z4, z5, z6⟩ : _ ∧ _ ∧ _ ∧ _ ∧ _ ∧ _ ∧ _ := ⟨blk_frozen hF1.out 0, blk_frozen hF1.out 1, blk_frozen hF1.out 2, blk_frozen hF1.out 3, blk_frozen hF1.out 4, blk_frozen hF1.out 5, blk_frozen hF1.out 6⟩
      have hfin := Aside0.mk (set7_below hFB.out (show w.heap.size ≤ w.heap.size + 1 by omega) (.int .i64 2) (.int .u32 0) (.int .u8 0) (.int .u8 0) (.slice A xd.length c) (.int .i64 xn) (.bool xo))
      go_wp2_with (fail)
      refine bodyPost_ret (results_cell_row rfl _ _ (w.heap.size + 1) 27 #[.int .i64 2, .int .u32 0, .int .u8 0, .int .u8 0, .slice A xd.length c, .int .i64 xn, .bool xo] (0, 0) _ rfl (by exact blk7 hF1.out _ _ _ _ _ _ _) Tryz.underlying27 rfl (by kernel_rfl)) rfl ?_

      exact ⟨A, c, rfl, hCA.out.1, Kd.C_below hCA.out.2 hfin.out, hfin.out⟩
  by_cases h3 : xk = 3
  · subst h3
    have hF2 : Aside0 ((((W.setCell ⟨w.heap.size + 1 + 1, 5, none⟩ (.int .i64 xn)).setCell ⟨w.heap.size + 1 + 1, 6, none⟩ (.bool xo)).drew).heap[w.heap.size + 1 + 1]? = some (.cells #[.int .i64 3, .int .u32 0, .int .u8 0, .int .u8 0, .slice none 0 0, .int .i64 xn, .bool xo] 27 (0, 0))) := ⟨(blk_put (cs := #[.int .i64 3, .int .u32 0, .int .u8 0, .int .u8 0, .slice none 0 0, .int .i64 xn, .bool false]) (blk_put (cs := #[.int .i64 3, .int .u32 0, .int .u8 0, .int .u8 0, .slice none 0 0, .int .i64 0, .bool false]) hE2.out 5 _ rfl) 6 _ rfl)⟩
    have hF1 : Aside0 ((((W.setCell ⟨w.heap.size + 1 + 1, 5, none⟩ (.int .i64 xn)).setCell ⟨w.heap.size + 1 + 1, 6, none⟩ (.bool xo)).drew).heap[w.heap.size + 1]? = some (.cells #[.int .i64 0, .int .u32 0, .int .u8 0, .int .u8 0, .slice none 0 0, .int .i64 0, .bool false] 27 (0, 0))) := ⟨((Below.heap_setCell (W.setCell ⟨w.heap.size + 1 + 1, 5, none⟩ (.int .i64 xn)) ⟨w.heap.size + 1 + 1, 6, none⟩ (.bool xo) (w.heap.size + 1) (by simp)).trans ((Below.heap_setCell W ⟨w.heap.size + 1 + 1, 5, none⟩ (.int .i64 xn) (w.heap.size + 1) (by simp)).trans hE1.out))⟩
    have hFB : Aside0 (Below w.heap.size w (((W.setCell ⟨w.heap.size + 1 + 1, 5, none⟩ (.int .i64 xn)).setCell ⟨w.heap.size + 1 + 1, 6, none⟩ (.bool xo)).drew)) := ⟨below_drew1 (set_below (set_below hB.out (by omega) 5 (.int .i64 xn)) (by omega) 6 (.bool xo))⟩
    go_wp2_with (fail)
    go_region_with (fail)
    all_goals
      generalize ((W.setCell ⟨w.heap.size + 1 + 1, 5, none⟩ (.int .i64 xn)).setCell ⟨w.heap.size + 1 + 1, 6, none⟩ (.bool xo)).drew = W9 at *
      clear m0 m1 m2 m3 m4 m5 m6 z0 z1 z2 z3 z4 z5 z6 d1 d2 d3 d4 d5 d6
      have e0 := (blk_cell hF2.out 0).trans rfl
      have e1 := (blk_cell hF2.out 1).trans rfl
      have e2 := (blk_cell hF2.out 2).trans rfl
      have e3 := (blk_cell hF2.out 3).trans rfl
      have e4 := (blk_cell hF2.out 4).trans rfl
      have e5 := (blk_cell hF2.out 5).trans rfl
      have e6 := (blk_cell hF2.out 6).trans rfl
      have g0 := (blk_cell hF1.out 0).trans rfl
      have g1 := (blk_cell hF1.out 1).trans rfl
      have g2 := (blk_cell hF1.out 2).trans rfl
      have g3 := (blk_cell hF1.out 3).trans rfl
      have g4 := (blk_cell hF1.out 4).trans rfl
      have g5 := (blk_cell hF1.out 5).trans rfl
      have g6 := (blk_cell hF1.out 6).trans rfl
      obtain ⟨z0, z1, z2, z3, z4, z5, z6⟩ : _ ∧ _ ∧ _ ∧ _ ∧ _ ∧ _ ∧ _ := ⟨blk_frozen hF1.out 0, blk_frozen hF1.out 1, blk_frozen hF1.out 2, blk_frozen hF1.out 3, blk_frozen hF1.out 4, blk_frozen hF1.out 5, blk_frozen hF1.out 6⟩
      have hfin := Aside0.mk (set7_below hFB.out (show w.heap.size ≤ w.heap.size + 1 by omega) (.int .i64 3) (.int .u32 0) (.int .u8 0) (.int .u8 0) (.slice none 0 0) (.int .i64 xn) (.bool xo))
      go_wp2_with (fail)
      refine bodyPost_ret (results_cell_row rfl _ _ (w.heap.size + 1) 27 #[.int .i64 3, .int .u32 0, .int .u8 0, .int .u8 0, .slice none 0 0, .int .i64 xn, .bool xo] (0, 0) _ rfl (by exact blk7 hF1.out _ _ _ _ _ _ _) Tryz.underlying27 rfl (by kernel_rfl)) rfl ?_

      exact ⟨none, 0, rfl, Nat.le_refl _, Kd.C_nil _ _, hfin.out⟩
  by_cases h4 : xk = 4
  · subst h4
    have hF2 : Aside0 (((W.setCell ⟨w.heap.size + 1 + 1, 5, none⟩ (.int .i64 xn))).heap[w.heap.size + 1 + 1]? = some (.cells #[.int .i64 4, .int .u32 0, .int .u8 0, .int .u8 0, .slice none 0 0, .int .i64 xn, .bool false] 27 (0, 0))) := ⟨(blk_put (cs := #[.int .i64 4, .int .u32 0, .int .u8 0, .int .u8 0, .slice none 0 0, .int .i64 0, .bool false]) hE2.out 5 _ rfl)⟩
    have hF1 : Aside0 (((W.setCell ⟨w.heap.size + 1 + 1, 5, none⟩ (.int .i64 xn))).heap[w.heap.size + 1]? = some (.cells #[.int .i64 0, .int .u32 0, .int .u8 0, .int .u8 0, .slice none 0 0, .int .i64 0, .bool false] 27 (0, 0))) := ⟨((Below.heap_setCell W ⟨w.heap.size + 1 + 1, 5, none⟩ (.int .i64 xn) (w.heap.size + 1) (by simp)).trans hE1.out)⟩
    have hFB : Aside0 (Below w.heap.size w ((W.setCell ⟨w.heap.size + 1 + 1, 5, none⟩ (.int .i64 xn)))) := ⟨(set_below hB.out (by omega) 5 (.int .i64 xn))⟩
    go_upto_region 12 with (fail)
    all_goals
      generalize (W.setCell ⟨w.heap.size + 1 + 1, 5, none⟩ (.int .i64 xn)) = W9 at *
      clear m0 m1 m2 m3 m4 m5 m6 z0 z1 z2 z3 z4 z5 z6 d1 d2 d3 d4 d5 d6
      have e0 := (blk_cell hF2.out 0).trans rfl
      have e1 := (blk_cell hF2.out 1).trans rfl
      have e2 := (blk_cell hF2.out 2).trans rfl
      have e3 := (blk_cell hF2.out 3).trans rfl
      have e4 := (blk_cell hF2.out 4).trans rfl
      have e5 := (blk_cell hF2.out 5).trans rfl
      have e6 := (blk_cell hF2.out 6).trans rfl
      have g0 := (blk_cell hF1.out 0).trans rfl
      have g1 := (blk_cell hF1.out 1).trans rfl
      have g2 := (blk_cell hF1.out 2).trans rfl
      have g3 := (blk_cell hF1.out 3).trans rfl
      have g4 := (blk_cell hF1.out 4).trans rfl
      have g5 := (blk_cell hF1.out 5).trans rfl
      have g6 := (blk_cell hF1.out 6).trans rfl
      obtain ⟨z0, z1, z2, z3, z4, z5, z6⟩ : _ ∧ _ ∧ _ ∧ _ ∧ _ ∧ _ ∧ _ := ⟨blk_frozen hF1.out 0, blk_frozen hF1.out 1, blk_frozen hF1.out 2, blk_frozen hF1.out 3, blk_frozen hF1.out 4, blk_frozen hF1.out 5, blk_frozen hF1.out 6⟩
      have hfin := Aside0.mk (set7_below hFB.out (show w.heap.size ≤ w.heap.size + 1 by omega) (.int .i64 4) (.int .u32 0) (.int .u8 0) (.int .u8 0) (.slice none 0 0) (.int .i64 xn) (.bool false))
      go_wp2_with (fail)
      refine bodyPost_ret (results_cell_row rfl _ _ (w.heap.size + 1) 27 #[.int .i64 4, .int .u32 0, .int .u8 0, .int .u8 0, .slice none 0 0, .int .i64 xn, .bool false] (0, 0) _ rfl (by exact blk7 hF1.out _ _ _ _ _ _ _) Tryz.underlying27 rfl (by kernel_rfl)) rfl ?_

      exact ⟨none, 0, rfl, Nat.le_refl _, Kd.C_nil _ _, hfin.out⟩
  have q0 : (xk == 0) = false := beq_eq_false_iff_ne.mpr h0
  have q1 : (xk == 1) = false := beq_eq_false_iff_ne.mpr h1
  have q2 : (xk == 2) = false := beq_eq_false_iff_ne.mpr h2
  have q3 : (xk == 3) = false := beq_eq_false_iff_ne.mpr h3
  have q4 : (xk == 4) = false := beq_eq_false_iff_ne.mpr h4
  have hF2 : Aside0 ((W).heap[w.heap.size + 1 + 1]? = some (.cells #[.int .i64 xk, .int .u32 0, .int .u8 0, .int .u8 0, .slice none 0 0, .int .i64 0, .bool false] 27 (0, 0))) := ⟨hE2.out⟩
  have hF1 : Aside0 ((W).heap[w.heap.size + 1]? = some (.cells #[.int .i64 0, .int .u32 0, .int .u8 0, .int .u8 0, .slice none 0 0, .int .i64 0, .bool false] 27 (0, 0))) := ⟨hE1.out⟩
  have hFB : Aside0 (Below w.heap.size w (W)) := ⟨hB.out⟩
  go_upto_region 12 with (fail)
  all_goals
    generalize W = W9 at *
    clear m0 m1 m2 m3 m4 m5 m6 z0 z1 z2 z3 z4 z5 z6 d1 d2 d3 d4 d5 d6
    have e0 := (blk_cell hF2.out 0).trans rfl
    have e1 := (blk_cell hF2.out 1).trans rfl
    have e2 := (blk_cell hF2.out 2).trans rfl
    have e3 := (blk_cell hF2.out 3).trans rfl
    have e4 := (blk_cell hF2.out 4).trans rfl
    have e5 := (blk_cell hF2.out 5).trans rfl
    have e6 := (blk_cell hF2.out 6).trans rfl
    have g0 := (blk_cell hF1.out 0).trans rfl
    have g1 := (blk_cell hF1.out 1).trans rfl
    have g2 := (blk_cell hF1.out 2).trans rfl
    have g3 := (blk_cell hF1.out 3).trans rfl
    have g4 := (blk_cell hF1.out 4).trans rfl
    have g5 := (blk_cell hF1.out 5).trans rfl
    have g6 := (blk_cell hF1.out 6).trans rfl
    obtain ⟨z0, z1, z2, z3, z4, z5, z6⟩ : _ ∧ _ ∧ _ ∧ _ ∧ _ ∧ _ ∧ _ := ⟨blk_frozen hF1.out 0, blk_frozen hF1.out 1, blk_frozen hF1.out 2, blk_frozen hF1.out 3, blk_frozen hF1.out 4, blk_frozen hF1.out 5, blk_frozen hF1.out 6⟩
    have hfin := Aside0.mk (set7_below hFB.out (show w.heap.size ≤ w.heap.size + 1 by omega) (.int .i64 xk) (.int .u32 0) (.int .u8 0) (.int .u8 0) (.slice none 0 0) (.int .i64 0) (.bool false))
    go_wp2_with (fail)
    refine bodyPost_ret (results_cell_row rfl _ _ (w.heap.size + 1) 27 #[.int .i64 xk, .int .u32 0, .int .u8 0, .int .u8 0, .slice none 0 0, .int .i64 0, .bool false] (0, 0) _ rfl (by exact blk7 hF1.out _ _ _ _ _ _ _) Tryz.underlying27 rfl (by kernel_rfl)) rfl ?_

    have hbe : bareE ⟨xk, ⟨xf, xm, xt⟩, xd, xn, xo⟩ = ⟨xk, ⟨0, 0, 0⟩, [], 0, false⟩ := by
      unfold bareE
      rw [if_neg (by show ¬ (xk = 0 ∨ xk = 1); omega), if_neg (by show ¬ xk = 2; omega), if_neg (by show ¬ (xk = 2 ∨ xk = 3 ∨ xk = 4); omega), if_neg (by show ¬ (0 ≤ xk ∧ xk ≤ 3); omega)]
    unfold BarePost
    rw [hbe]
    exact ⟨none, 0, rfl, Nat.le_refl _, Kd.C_nil _ _, hfin.out⟩
end Go.Proofs.YtbiogabekhegaaaGreatDoor.Hand

namespace Go.Proofs.YtbiogabekhegaaaGreatDoor.Hand
open Go.RowKit Go.Proofs.YtbiogabekhegaaaGreatDoorW.PrintWords Go.Proofs.YtbiogabekhegaaaGreatDoorW.PrintLast
open Go.Proofs.YtbiogabekhegaaaGreatDoor.PWritten (S27 S25 k27 z27 rd_T27 at_T27 k27_mk)
set_option linter.unusedVariables false
set_option linter.unusedSimpArgs false
def lineR (x : S27) : ByteArray × Int := if x.f0 < 0 ∨ 7 ≤ x.f0 then (⟨#[]⟩, 9) else if x.f3 < 0 ∨ sameE x (bareE x) = false then (⟨#[]⟩, 8) else (lineB x.f0.toNat x, 0)
set_option maxHeartbeats 8000000 in
set_option maxRecDepth 100000 in
theorem Line_ok (x : S27) (A : Option Addr) (c : Nat) (w : World) (HT : TabA w) (hx : EffOk x A c w) :
    Calls Tryz.prog 11 #[.agg (effV x A c)] w fun e w' => e = .returned (.tuple #[.string (lineR x).1, .int .i64 (lineR x).2]) ∧ Below w.heap.size w w' := by
  have hb0 : Below w.heap.size w (w.alloc (.cells (effV x A c) 27)) := (Below.refl _ w).alloc (Nat.le_refl _) _
  have HK := kinds_ok (w.alloc (.cells (effV x A c) 27))
  have hE0 := Aside0.mk (heap_alloc_new w (.cells (effV x A c) 27))
  have hB0 := Aside0.mk hb0
  have hHT := Aside0.mk HT
  have hX := Aside0.mk hx
  clear HT hx hb0
  go_enter Tryz.func11, Tryz.ntmps11
  go_wp2_with (fail)
  refine HK.mono ?_
  rintro e w1 ⟨rfl, hq, _, hb1⟩
  generalize hqq : (w.alloc (.cells (effV x A c) 27)).heap.size + 1 = q at *
  have hb2 := hb1.alloc hb1.size (.cells (kindsA q) 59)
  have hE2 := Aside0.mk ((hb2.block _ (blk_lt hE0.out)).trans hE0.out)
  have hQ2 := Aside0.mk ((heap_alloc_old w1 (.cells (kindsA q) 59) (blk_lt hq)).trans hq)
  have hB2 := Aside0.mk (hB0.out.trans (hb2.mono hB0.out.size))
  have hKd := Aside0.mk (heap_alloc_new w1 (.cells (kindsA q) 59))
  clear hq hb1 hqq HK hb2
  go_wp2_with (refine gate_ (.store 59 (.tmp 4) (.tmp 5)) rfl ?roundEnd)
  refine wpList_store_last rfl 59 (.tmp 4) (.tmp 5) rfl w1.heap.size _ (kindsA q) rfl rfl rfl (by kernel_rfl) rfl (kinds_one q) ?_
  clear hE0 hB0
  generalize w1.heap.size = bk at *
  generalize w1.alloc (.cells (kindsA q) 59) = W at *
  obtain ⟨m0, m1, m2, m3, m4, m5, m6⟩ := effV_cells hE2.out
  by_cases hk0 : x.f0 < 0
  · have hr : lineR x = (⟨#[]⟩, 9) := if_pos (.inl hk0)
    have hrA := Aside0.mk hr
    clear hr
    go_wp2_with (fail)
    go_ret2
    rw [hrA.out]
    exact ⟨rfl, hB2.out⟩
  · by_cases hk7 : 7 ≤ x.f0
    · have hr : lineR x = (⟨#[]⟩, 9) := if_pos (.inr hk7)
      have hrA := Aside0.mk hr
      clear hr
      go_wp2_with (fail)
      go_ret2
      rw [hrA.out]
      exact ⟨rfl, hB2.out⟩
    · have hr1 : lineR x = if x.f3 < 0 ∨ sameE x (bareE x) = false then (⟨#[]⟩, 8) else (lineB x.f0.toNat x, 0) := if_neg (fun e => e.elim hk0 hk7)
      have hr1A := Aside0.mk hr1
      clear hr1
      by_cases hn : x.f3 < 0
      · have hr : lineR x = (⟨#[]⟩, 8) := hr1A.out.trans (if_pos (.inl hn))
        have hrA := Aside0.mk hr
        clear hr hr1A
        go_wp2_with (fail)
        go_region_with (fail)
        all_goals
          go_wp2_with (fail)
          go_ret2
          rw [hrA.out]
          exact ⟨rfl, by first | exact hB2.out | exact below_drew1 hB2.out⟩
      · go_upto_region 4 with (fail)
        go_cut [15] (fun v15 wc => v15 = .bool (!sameE x (bareE x)) ∧ Aside0 (Below W.heap.size W wc))
        case first =>
          have hC4 : Kd.C (Kd.int .u8) W.drew A x.f2.length x.f2 := Kd.C_below hX.out.C (below_drew1 hB2.out)
          have p4 := effV_cells (W := W.drew) hE2.out
          have hCA := Aside0.mk hC4
          clear hC4
          go_region_with (first | (go_at_call 25; refine (bare_ok x A c _ hX.out.hc hCA.out).mono ?_; rintro e w5 ⟨A5, c5, rfl, hc5, hC5, hb5⟩; have hE5 := (hb5.block _ (blk_lt hE2.out)).trans hE2.out; obtain ⟨n0, n1, n2, n3, n4, n5, n6⟩ := effV_cells hE5) | (go_at_call 23; refine (same_call x (bareE x) A A5 c c5 _ (Kd.C_below hCA.out hb5) hX.out.hc hC5 hc5).mono ?_; rintro e w6 ⟨rfl, hb6⟩))
          all_goals
            go_wp2_with (fail)
            go_meet
            case rel => exact ⟨rfl, ⟨(below_drew1 (Below.refl _ W)).trans (hb5.trans (hb6.mono hb5.size))⟩⟩
        case rest =>
          obtain ⟨rfl, hbc⟩ := hcut
          have hE6 := Aside0.mk ((hbc.out.block _ (blk_lt hE2.out)).trans hE2.out)
          have hQ6 := Aside0.mk ((hbc.out.block _ (blk_lt hQ2.out)).trans hQ2.out)
          have hK6 := Aside0.mk ((hbc.out.block _ (blk_lt hKd.out)).trans hKd.out)
          have hB6 := Aside0.mk (hB2.out.trans (hbc.out.mono hB2.out.size))
          clear m0 m1 m2 m3 m4 m5 m6 hE2 hQ2 hKd hB2 hbc
          generalize hS : sameE x (bareE x) = S at *
          have hSA := Aside0.mk hS
          clear hS
          cases S
          · have hr : lineR x = (⟨#[]⟩, 8) := hr1A.out.trans (if_pos (.inr rfl))
            have hrA := Aside0.mk hr
            clear hr hr1A
            go_wp2_with (fail)
            go_ret2
            rw [hrA.out]
            exact ⟨rfl, hB6.out⟩
          · have hr : lineR x = (lineB x.f0.toNat x, 0) := hr1A.out.trans (if_neg (fun e => e.elim hn (fun e => by cases e)))
            have hrA := Aside0.mk hr
            clear hr
            obtain ⟨k, hkk, hk⟩ : ∃ k : Nat, x.f0 = k ∧ k < 7 := ⟨x.f0.toNat, by omega, by omega⟩
            have hEk := Aside0.mk hkk
            have hkA := Aside0.mk hk
            have hqc := Aside0.mk (hX.out.below hB6.out)
            have hTc := Aside0.mk (hHT.out.below hB6.out)
            clear hX hHT hr1A hSA
            obtain ⟨m0, m1, m2, m3, m4, m5, m6⟩ := effV_cells hE6.out
            rw [hkk] at m0
            have hrk : lineR x = (lineB k x, 0) := by rw [hrA.out, hkk]; rfl
            have hev : effV x A c = #[.int .i64 k, .int .u32 x.f1.f0, .int .u8 x.f1.f1, .int .u8 x.f1.f2, .slice A x.f2.length c, .int .i64 x.f3, .bool x.f4] := by unfold effV; rw [hkk]
            have hevA := Aside0.mk hev
            have hrkA := Aside0.mk hrk
            clear hrk hev hrA
            obtain rfl | rfl | rfl | rfl | rfl | rfl | rfl : k = 0 ∨ k = 1 ∨ k = 2 ∨ k = 3 ∨ k = 4 ∨ k = 5 ∨ k = 6 := by omega
            · have q0 : wc.cell? ⟨bk, 0, none⟩ = some (.string ⟨#[103, 111, 116]⟩) := blk_cell hK6.out 0
              have q1 : wc.cell? ⟨bk, 1, none⟩ = some (.bool true) := blk_cell hK6.out 1
              have q2 : wc.cell? ⟨bk, 2, none⟩ = some (.int .i64 3) := blk_cell hK6.out 2
              have q3 : wc.cell? ⟨bk, 3, none⟩ = some (.func (.func 40) #[] #[]) := blk_cell hK6.out 3
              have q4 : wc.cell? ⟨bk, 4, none⟩ = some (.func (.func 42) #[] #[]) := blk_cell hK6.out 4
              go_upto_region 6 with (fail)
              have hbd : Below wc.heap.size wc wc.drew := below_drew1 (Below.refl _ wc)
              have HL := line_ok 0 (by omega) q x A c wc.drew (hTc.out.below hbd) (hqc.out.below hbd) hQ6.out
              rw [hevA.out] at HL
              have HLA := Aside0.mk HL
              clear HL
              go_region_with (refine HLA.out.mono ?_; rintro e w7 ⟨rfl, hb7⟩)
              all_goals
                go_wp2_with (fail)
                go_ret2
                rw [hrkA.out]
                exact ⟨rfl, hB6.out.trans ((below_drew1 (Below.refl _ wc)).trans hb7 |>.mono hB6.out.size)⟩
            · have q0 : wc.cell? ⟨bk, 5, none⟩ = some (.string ⟨#[119, 97, 115]⟩) := blk_cell hK6.out 5
              have q1 : wc.cell? ⟨bk, 6, none⟩ = some (.bool true) := blk_cell hK6.out 6
              have q2 : wc.cell? ⟨bk, 7, none⟩ = some (.int .i64 3) := blk_cell hK6.out 7
              have q3 : wc.cell? ⟨bk, 8, none⟩ = some (.func (.func 40) #[] #[]) := blk_cell hK6.out 8
              have q4 : wc.cell? ⟨bk, 9, none⟩ = some (.func (.func 42) #[] #[]) := blk_cell hK6.out 9
              go_upto_region 6 with (fail)
              have hbd : Below wc.heap.size wc wc.drew := below_drew1 (Below.refl _ wc)
              have HL := line_ok 1 (by omega) q x A c wc.drew (hTc.out.below hbd) (hqc.out.below hbd) hQ6.out
              rw [hevA.out] at HL
              have HLA := Aside0.mk HL
              clear HL
              go_region_with (refine HLA.out.mono ?_; rintro e w7 ⟨rfl, hb7⟩)
              all_goals
                go_wp2_with (fail)
                go_ret2
                rw [hrkA.out]
                exact ⟨rfl, hB6.out.trans ((below_drew1 (Below.refl _ wc)).trans hb7 |>.mono hB6.out.size)⟩
            · have q0 : wc.cell? ⟨bk, 10, none⟩ = some (.string ⟨#[119, 114, 111, 116, 101]⟩) := blk_cell hK6.out 10
              have q1 : wc.cell? ⟨bk, 11, none⟩ = some (.bool true) := blk_cell hK6.out 11
              have q2 : wc.cell? ⟨bk, 12, none⟩ = some (.int .i64 2) := blk_cell hK6.out 12
              have q3 : wc.cell? ⟨bk, 13, none⟩ = some (.func (.func 49) #[] #[.pointer (some ⟨q, 0, none⟩)]) := blk_cell hK6.out 13
              have q4 : wc.cell? ⟨bk, 14, none⟩ = some (.func (.func 51) #[] #[.pointer (some ⟨q + 1, 0, none⟩)]) := blk_cell hK6.out 14
              go_upto_region 6 with (fail)
              have hbd : Below wc.heap.size wc wc.drew := below_drew1 (Below.refl _ wc)
              have HL := line_ok 2 (by omega) q x A c wc.drew (hTc.out.below hbd) (hqc.out.below hbd) hQ6.out
              rw [hevA.out] at HL
              have HLA := Aside0.mk HL
              clear HL
              go_region_with (refine HLA.out.mono ?_; rintro e w7 ⟨rfl, hb7⟩)
              all_goals
                go_wp2_with (fail)
                go_ret2
                rw [hrkA.out]
                exact ⟨rfl, hB6.out.trans ((below_drew1 (Below.refl _ wc)).trans hb7 |>.mono hB6.out.size)⟩
            · have q0 : wc.cell? ⟨bk, 15, none⟩ = some (.string ⟨#[114, 101, 97, 100]⟩) := blk_cell hK6.out 15
              have q1 : wc.cell? ⟨bk, 16, none⟩ = some (.bool true) := blk_cell hK6.out 16
              have q2 : wc.cell? ⟨bk, 17, none⟩ = some (.int .i64 1) := blk_cell hK6.out 17
              have q3 : wc.cell? ⟨bk, 18, none⟩ = some (.func (.func 45) #[] #[]) := blk_cell hK6.out 18
              have q4 : wc.cell? ⟨bk, 19, none⟩ = some (.func (.func 47) #[] #[]) := blk_cell hK6.out 19
              go_upto_region 6 with (fail)
              have hbd : Below wc.heap.size wc wc.drew := below_drew1 (Below.refl _ wc)
              have HL := line_ok 3 (by omega) q x A c wc.drew (hTc.out.below hbd) (hqc.out.below hbd) hQ6.out
              rw [hevA.out] at HL
              have HLA := Aside0.mk HL
              clear HL
              go_region_with (refine HLA.out.mono ?_; rintro e w7 ⟨rfl, hb7⟩)
              all_goals
                go_wp2_with (fail)
                go_ret2
                rw [hrkA.out]
                exact ⟨rfl, hB6.out.trans ((below_drew1 (Below.refl _ wc)).trans hb7 |>.mono hB6.out.size)⟩
            · have q0 : wc.cell? ⟨bk, 20, none⟩ = some (.string ⟨#[115, 105, 103, 110, 97, 108]⟩) := blk_cell hK6.out 20
              have q1 : wc.cell? ⟨bk, 21, none⟩ = some (.bool false) := blk_cell hK6.out 21
              have q2 : wc.cell? ⟨bk, 22, none⟩ = some (.int .i64 1) := blk_cell hK6.out 22
              have q3 : wc.cell? ⟨bk, 23, none⟩ = some (.func (.func 45) #[] #[]) := blk_cell hK6.out 23
              have q4 : wc.cell? ⟨bk, 24, none⟩ = some (.func (.func 47) #[] #[]) := blk_cell hK6.out 24
              go_upto_region 6 with (fail)
              have hbd : Below wc.heap.size wc wc.drew := below_drew1 (Below.refl _ wc)
              have HL := line_ok 4 (by omega) q x A c wc.drew (hTc.out.below hbd) (hqc.out.below hbd) hQ6.out
              rw [hevA.out] at HL
              have HLA := Aside0.mk HL
              clear HL
              go_region_with (refine HLA.out.mono ?_; rintro e w7 ⟨rfl, hb7⟩)
              all_goals
                go_wp2_with (fail)
                go_ret2
                rw [hrkA.out]
                exact ⟨rfl, hB6.out.trans ((below_drew1 (Below.refl _ wc)).trans hb7 |>.mono hB6.out.size)⟩
            · have q0 : wc.cell? ⟨bk, 25, none⟩ = some (.string ⟨#[101, 110, 100]⟩) := blk_cell hK6.out 25
              have q1 : wc.cell? ⟨bk, 26, none⟩ = some (.bool false) := blk_cell hK6.out 26
              have q2 : wc.cell? ⟨bk, 27, none⟩ = some (.int .i64 0) := blk_cell hK6.out 27
              have q3 : wc.cell? ⟨bk, 28, none⟩ = some (.func (.func 53) #[] #[]) := blk_cell hK6.out 28
              have q4 : wc.cell? ⟨bk, 29, none⟩ = some (.func (.func 54) #[] #[]) := blk_cell hK6.out 29
              go_upto_region 6 with (fail)
              have hbd : Below wc.heap.size wc wc.drew := below_drew1 (Below.refl _ wc)
              have HL := line_ok 5 (by omega) q x A c wc.drew (hTc.out.below hbd) (hqc.out.below hbd) hQ6.out
              rw [hevA.out] at HL
              have HLA := Aside0.mk HL
              clear HL
              go_region_with (refine HLA.out.mono ?_; rintro e w7 ⟨rfl, hb7⟩)
              all_goals
                go_wp2_with (fail)
                go_ret2
                rw [hrkA.out]
                exact ⟨rfl, hB6.out.trans ((below_drew1 (Below.refl _ wc)).trans hb7 |>.mono hB6.out.size)⟩
            · have q0 : wc.cell? ⟨bk, 30, none⟩ = some (.string ⟨#[104, 105, 115, 116, 111, 114, 121]⟩) := blk_cell hK6.out 30
              have q1 : wc.cell? ⟨bk, 31, none⟩ = some (.bool false) := blk_cell hK6.out 31
              have q2 : wc.cell? ⟨bk, 32, none⟩ = some (.int .i64 0) := blk_cell hK6.out 32
              have q3 : wc.cell? ⟨bk, 33, none⟩ = some (.func (.func 53) #[] #[]) := blk_cell hK6.out 33
              have q4 : wc.cell? ⟨bk, 34, none⟩ = some (.func (.func 54) #[] #[]) := blk_cell hK6.out 34
              go_upto_region 6 with (fail)
              have hbd : Below wc.heap.size wc wc.drew := below_drew1 (Below.refl _ wc)
              have HL := line_ok 6 (by omega) q x A c wc.drew (hTc.out.below hbd) (hqc.out.below hbd) hQ6.out
              rw [hevA.out] at HL
              have HLA := Aside0.mk HL
              clear HL
              go_region_with (refine HLA.out.mono ?_; rintro e w7 ⟨rfl, hb7⟩)
              all_goals
                go_wp2_with (fail)
                go_ret2
                rw [hrkA.out]
                exact ⟨rfl, hB6.out.trans ((below_drew1 (Below.refl _ wc)).trans hb7 |>.mono hB6.out.size)⟩
end Go.Proofs.YtbiogabekhegaaaGreatDoor.Hand
