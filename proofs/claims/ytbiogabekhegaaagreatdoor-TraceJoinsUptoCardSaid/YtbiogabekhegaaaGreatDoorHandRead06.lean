/- attrs.Read. -/
import Derived.Test.YtbiogabekhegaaaGreatDoorHandFlag06
import Derived.Test.YtbiogabekhegaaaGreatDoorHandRef06
namespace Go.Proofs.YtbiogabekhegaaaGreatDoor.Hand
open Go.RowKit Go.Proofs.YtbiogabekhegaaaGreatDoorW.PrintWords Go.Proofs.YtbiogabekhegaaaGreatDoorW.PrintLast
set_option linter.unusedVariables false
set_option linter.unusedSimpArgs false

theorem first_of (c : UInt8) : ∀ l : List UInt8, c ∈ l → ∃ p r, l = p ++ c :: r ∧ c ∉ p
  | x :: r, h => by
    by_cases hx : x = c
    · subst hx; exact ⟨[], r, rfl, by simp⟩
    · obtain ⟨p, q, h1, h2⟩ := first_of c r (by rcases List.mem_cons.mp h with e | e; exact absurd e.symm hx; exact e)
      refine ⟨x :: p, q, by rw [h1]; rfl, ?_⟩
      intro hm
      rcases List.mem_cons.mp hm with e | e
      · exact hx e.symm
      · exact h2 e
theorem splitK_eq (c : UInt8) : ∀ (k : Nat) (l : List UInt8), l.count c ≤ k → Lib.splitK [c] 0 k l = splitB c l := by
  intro k
  induction k with
  | zero =>
    intro l h
    have hc : c ∉ l := fun hm => by have := List.count_pos_iff.mpr hm; omega
    rw [split_none c l hc]
    rfl
  | succ k ih =>
    intro l h
    by_cases hc : c ∈ l
    · obtain ⟨p, r, rfl, hp⟩ : ∃ p r, l = p ++ c :: r ∧ c ∉ p := by
        exact first_of c l hc
      have hi := index_at c r p hp
      unfold Lib.splitK
      rw [hi, if_neg (by simp; try omega), Int.toNat_natCast, split_app c p r hp]
      rw [show p.length + 0 = p.length from rfl, List.take_left, ← List.drop_drop, List.drop_left]
      rw [show List.drop [c].length (c :: r) = r from rfl]
      rw [ih r (by rw [List.count_append, List.count_cons_self] at h; omega)]
    · have hi := index_none c l hc
      unfold Lib.splitK
      rw [hi, if_pos (by decide), split_none c l hc]
def pieces (c : UInt8) (s : ByteArray) : List ByteArray := (splitB c s.data.toList).map ba
theorem pieces_eq (c : UInt8) (s : ByteArray) : Lib.splitB ⟨#[c]⟩ 0 (Lib.countB s ⟨#[c]⟩) s = pieces c s := by
  have h := Lib.splitB_data ⟨#[c]⟩ 0 (Lib.countB s ⟨#[c]⟩) s
  have h1 : Lib.countB s ⟨#[c]⟩ = s.data.toList.count c := Lib.count_one c _
  rw [show (⟨#[c]⟩ : ByteArray).data.toList = [c] from rfl, splitK_eq c _ _ (by rw [h1]; exact Nat.le_refl _)] at h
  unfold pieces
  rw [← h, List.map_map]
  exact (List.map_id' _ |>.symm) |> fun e => by
    refine e.trans (List.map_congr_left fun x _ => ?_)
    rfl
theorem pieces_length (c : UInt8) (s : ByteArray) : (pieces c s).length ≤ s.size + 1 := by
  unfold pieces
  rw [List.length_map, Lib.size_eq s]
  exact split_length c _
theorem pieces_size (c : UInt8) (s : ByteArray) : ∀ x ∈ pieces c s, x.size ≤ s.size := by
  intro x hx
  unfold pieces at hx
  obtain ⟨l, hl, rfl⟩ := List.mem_map.mp hx
  rw [Lib.size_eq s, Lib.size_eq (ba l), data_ba]
  rw [← join_split c s.data.toList]
  generalize splitB c s.data.toList = L at hl
  clear hx
  induction L with
  | nil => cases hl
  | cons a r ih =>
    by_cases hr : r = []
    · subst hr
      rw [List.mem_singleton.mp hl]
      exact Nat.le_refl _
    · rw [join_cons c a r hr, List.length_append, List.length_cons]
      rcases List.mem_cons.mp hl with rfl | h
      · omega
      · have := ih h; omega
theorem split_ok (s : ByteArray) (c : UInt8) (hs : s.size < 4294967281) (w : World) (HT : TabA w) :
    Calls Tryz.prog 31 #[.string s, .string ⟨#[c]⟩] w fun e w' => e = .returned (.slice (some ⟨w.heap.size, 0, none⟩) ((pieces c s).length : Nat) ((pieces c s).length : Nat)) ∧ w'.heap[w.heap.size]? = some (.cells ((pieces c s).map Value.string).toArray 9 (0, 0)) ∧ Below w.heap.size w w' := by
  obtain ⟨m, hm⟩ := HT.mx
  refine (Tryz.strings_Split s ⟨#[c]⟩ m w hs hm (Nat.le_refl 1)).mono ?_
  rintro e w' ⟨rfl, rfl⟩
  have hn : Lib.countB s ⟨#[c]⟩ + 1 = (pieces c s).length := by
    rw [← pieces_eq]
    exact (Lib.splitB_all ⟨#[c]⟩ (Nat.le_refl 1) 0 _ s rfl).symm
  rw [hn, pieces_eq]
  exact ⟨rfl, heap_alloc_new _ _, (Below.refl _ _).alloc (Nat.le_refl _) _⟩

theorem flag_any (s : ByteArray) (hs : s.size ≤ 281474976710656) (w : World) (HT : TabA w) :
    Calls Tryz.prog 63 #[.string s] w fun e w' => e = .returned (.tuple #[.int .u32 ((flagV s).1 : Int), .bool (flagV s).2]) ∧ Below w.heap.size w w' := by
  unfold flagV
  rcases idx_range s with h | ⟨j, h1, h2⟩
  · rw [if_neg (by omega)]
    exact flag_hex s hs h w HT
  · rw [if_pos (by omega), h2, Int.toNat_natCast]
    exact flag_name s j h1 h2 w HT

/-- The words for flags, read: all of the first k are right; their flags. -/
def okP (x : ByteArray) : Bool := (flagV x).2 || decide (x = ⟨#[45]⟩)
def orL (l : List ByteArray) : Nat := l.foldl (fun a x => a ||| (flagV x).1) 0
theorem or_lt (l : List ByteArray) : ∀ a, a < 4294967296 → l.foldl (fun a x => a ||| (flagV x).1) a < 4294967296 := by
  induction l with
  | nil => intro a h; exact h
  | cons x r ih =>
    intro a h
    exact ih _ (Nat.or_lt_two_pow (n := 32) h (by have := flagV_lt x; omega))
theorem orL_lt (l : List ByteArray) : orL l < 4294967296 := or_lt l 0 (by omega)
theorem orL_snoc (l : List ByteArray) (x : ByteArray) : orL (l ++ [x]) = orL l ||| (flagV x).1 := by unfold orL; rw [List.foldl_append]; rfl

theorem split_eq (s : ByteArray) (c : UInt8) (hs : s.size < 4294967281) (w : World) (HT : TabA w) :
    Calls Tryz.prog 31 #[.string s, .string ⟨#[c]⟩] w fun e w' => e = .returned (.slice (some ⟨w.heap.size, 0, none⟩) ((pieces c s).length : Nat) ((pieces c s).length : Nat)) ∧ w' = w.alloc (.cells ((pieces c s).map Value.string).toArray 9) := by
  obtain ⟨m, hm⟩ := HT.mx
  refine (Tryz.strings_Split s ⟨#[c]⟩ m w hs hm (Nat.le_refl 1)).mono ?_
  rintro e w' ⟨rfl, rfl⟩
  have hn : Lib.countB s ⟨#[c]⟩ + 1 = (pieces c s).length := by
    rw [← pieces_eq]
    exact (Lib.splitB_all ⟨#[c]⟩ (Nat.le_refl 1) 0 _ s rfl).symm
  rw [hn, pieces_eq]
  exact ⟨rfl, rfl⟩
theorem blk3 {W : World} {g : Nat} {t : TypeId} {a b c : Value} (h : W.heap[g]? = some (.cells #[a, b, c] t (0, 0))) (x y z : Value) :
    (((W.setCell ⟨g, 0, none⟩ x).setCell ⟨g, 1, none⟩ y).setCell ⟨g, 2, none⟩ z).heap[g]? = some (.cells #[x, y, z] t (0, 0)) :=
  blk_put (cs := #[x, y, c]) (blk_put (cs := #[x, b, c]) (blk_put (cs := #[a, b, c]) h 0 x rfl) 1 y rfl) 2 z rfl
theorem set_below {B : Nat} {w W : World} {g : Nat} (h : Below B w W) (hg : B ≤ g) (i : Nat) (v : Value) : Below B w (W.setCell ⟨g, i, none⟩ v) := h.setCell hg v
theorem set3_below {B : Nat} {w W : World} {g : Nat} (h : Below B w W) (hg : B ≤ g) (x y z : Value) : Below B w (((W.setCell ⟨g, 0, none⟩ x).setCell ⟨g, 1, none⟩ y).setCell ⟨g, 2, none⟩ z) := set_below (set_below (set_below h hg 0 x) hg 1 y) hg 2 z

def RdOk (s : ByteArray) (w : World) (f m t e : Nat) : Prop := Calls Tryz.prog 43 #[.string s] w fun e' w' => e' = .returned (.tuple #[.agg #[.int .u32 f, .int .u8 m, .int .u8 t], .int .i64 e]) ∧ Below w.heap.size w w'

set_option maxHeartbeats 4000000 in
set_option maxRecDepth 100000 in
theorem read_len (s : ByteArray) (hs : s.size ≤ 100000) (h3 : (pieces 32 s).length ≠ 3) (w : World) (HT : TabA w) : RdOk s w 0 0 0 8 := by
  unfold RdOk
  have hl := pieces_length 32 s
  have H1 := HT.below ((Below.refl _ w).alloc (Nat.le_refl _) (.cells #[.int .u32 0, .int .u8 0, .int .u8 0] 25))
  go_enter Tryz.func43, Tryz.ntmps43
  go_wp2_with (fail)
  refine (split_eq s 32 (by omega) _ H1).mono ?_
  rintro e w1 ⟨rfl, rfl⟩
  have hR : ((w.alloc (.cells #[.int .u32 0, .int .u8 0, .int .u8 0] 25)).alloc (.cells ((pieces 32 s).map Value.string).toArray 9)).heap[w.heap.size]? = some (.cells #[.int .u32 0, .int .u8 0, .int .u8 0] 25 (0, 0)) := (heap_alloc_old _ _ (by simp)).trans (heap_alloc_new _ _)
  have hb : Below w.heap.size w ((w.alloc (.cells #[.int .u32 0, .int .u8 0, .int .u8 0] 25)).alloc (.cells ((pieces 32 s).map Value.string).toArray 9)) := ((Below.refl _ w).alloc (Nat.le_refl _) _).alloc (by simp) _
  generalize (w.alloc (.cells #[.int .u32 0, .int .u8 0, .int .u8 0] 25)).alloc (.cells ((pieces 32 s).map Value.string).toArray 9) = W at *
  generalize (pieces 32 s).length = n at *
  have h3' : ((n : Int) != 3) = true := by simp; omega
  have c0 := (blk_cell hR 0).trans rfl
  have c1 := (blk_cell hR 1).trans rfl
  have c2 := (blk_cell hR 2).trans rfl
  have f0 := blk_frozen hR 0
  have f1 := blk_frozen hR 1
  have f2 := blk_frozen hR 2
  have hRA := Aside0.mk hR
  have hbA := Aside0.mk hb
  clear h3 hR hb H1
  go_wp2_with (fail)
  refine bodyPost_ret (results_ct rfl _ _ w.heap.size 25 #[.int .u32 0, .int .u8 0, .int .u8 0] (0, 0) _ rfl (by exact blk3 hRA.out _ _ _) Tryz.underlying25 rfl (by kernel_rfl)) rfl ?_
  exact ⟨rfl, set3_below hbA.out (Nat.le_refl _) _ _ _⟩

theorem pu8_any (t : ByteArray) (ht : t.size ≤ 281474976710656) (w : World) (HT : TabA w) :
    Calls Tryz.prog 64 #[.string t, .int .i64 10, .int .i64 8] w fun e w' => ∃ ev, e = .returned (.tuple #[.int .u64 (d8 t), ev]) ∧ ((d8ok t = false ∧ ∃ N, ev = .iface 139 (.pointer (some ⟨N, 0, none⟩))) ∨ (d8ok t = true ∧ ev = .nilIface)) ∧ Below w.heap.size w w' := by
  cases h : d8ok t
  · exact (pu8_bad t ht h w HT).mono fun e w' ⟨N, he, hb⟩ => ⟨_, he, .inl ⟨rfl, N, rfl⟩, hb⟩
  · exact (pu8_ok t ht h w).mono fun e w' ⟨he, hb⟩ => ⟨_, he, .inr ⟨rfl, rfl⟩, hb⟩
def retV (g : Bool) (f m t : Nat) : Value := if g then .tuple #[.agg #[.int .u32 f, .int .u8 m, .int .u8 t], .int .i64 0] else .tuple #[.agg #[.int .u32 0, .int .u8 0, .int .u8 0], .int .i64 8]
def goodB (s p0 p1 p2 : ByteArray) : Bool := (pieces 43 p0).all okP && d8ok p1 && d8ok p2 && decide (textV (orL (pieces 43 p0)) (d8 p1) (d8 p2) = s)
/-- The blocks while the loop runs. -/
structure RL (w wr : World) (p0 p1 p2 : ByteArray) (qs : List ByteArray) (acc : Nat) : Prop where
  r : wr.heap[w.heap.size]? = some (.cells #[.int .u32 0, .int .u8 0, .int .u8 0] 25 (0, 0))
  s1 : wr.heap[w.heap.size + 1]? = some (.cells #[.string p0, .string p1, .string p2] 9 (0, 0))
  a : wr.heap[w.heap.size + 1 + 1]? = some (.cells #[.int .u32 acc, .int .u8 0, .int .u8 0] 25 (0, 0))
  s2 : wr.heap[w.heap.size + 1 + 1 + 1]? = some (.cells (qs.map Value.string).toArray 9 (0, 0))
  b : Below w.heap.size w wr
theorem lt_of_block {W : World} {g : Nat} {o : Obj} (h : W.heap[g]? = some o) : g < W.heap.size := (Array.getElem?_eq_some_iff.1 h).1
theorem RL.below {w wr W : World} {p0 p1 p2 : ByteArray} {qs : List ByteArray} {acc : Nat} (h : RL w wr p0 p1 p2 qs acc) (hb : Below wr.heap.size wr W) : RL w W p0 p1 p2 qs acc :=
  ⟨(hb.block _ (lt_of_block h.r)).trans h.r, (hb.block _ (lt_of_block h.s1)).trans h.s1, (hb.block _ (lt_of_block h.a)).trans h.a, (hb.block _ (lt_of_block h.s2)).trans h.s2, h.b.trans (hb.mono h.b.size)⟩
theorem RL.put {w wr : World} {p0 p1 p2 : ByteArray} {qs : List ByteArray} {acc : Nat} (h : RL w wr p0 p1 p2 qs acc) (v : Nat) : RL w (wr.setCell ⟨w.heap.size + 1 + 1, 0, none⟩ (.int .u32 v)) p0 p1 p2 qs v :=
  ⟨(Below.heap_setCell wr _ _ _ (by simp; try omega)).trans h.r, (Below.heap_setCell wr _ _ _ (by simp; try omega)).trans h.s1, blk_put (cs := #[.int .u32 acc, .int .u8 0, .int .u8 0]) h.a 0 _ rfl, (Below.heap_setCell wr _ _ _ (by simp; try omega)).trans h.s2, set_below h.b (by omega) _ _⟩
theorem RL.start (w : World) (p0 p1 p2 : ByteArray) (qs : List ByteArray) :
    RL w ((((w.alloc (.cells #[.int .u32 0, .int .u8 0, .int .u8 0] 25)).alloc (.cells #[.string p0, .string p1, .string p2] 9)).alloc (.cells #[.int .u32 0, .int .u8 0, .int .u8 0] 25)).alloc (.cells (qs.map Value.string).toArray 9)) p0 p1 p2 qs 0 := by
  refine ⟨?_, ?_, ?_, ?_, ?_⟩
  · exact (heap_alloc_old _ _ (by simp; try omega)).trans ((heap_alloc_old _ _ (by simp; try omega)).trans ((heap_alloc_old _ _ (by simp)).trans (heap_alloc_new _ _)))
  · refine (heap_alloc_old _ _ (by simp; try omega)).trans ((heap_alloc_old _ _ (by simp)).trans ?_)
    have := heap_alloc_new (w.alloc (.cells #[.int .u32 0, .int .u8 0, .int .u8 0] 25)) (.cells #[.string p0, .string p1, .string p2] 9)
    simpa using this
  · refine (heap_alloc_old _ _ (by simp)).trans ?_
    have := heap_alloc_new ((w.alloc (.cells #[.int .u32 0, .int .u8 0, .int .u8 0] 25)).alloc (.cells #[.string p0, .string p1, .string p2] 9)) (.cells #[.int .u32 0, .int .u8 0, .int .u8 0] 25)
    simpa using this
  · have := heap_alloc_new (((w.alloc (.cells #[.int .u32 0, .int .u8 0, .int .u8 0] 25)).alloc (.cells #[.string p0, .string p1, .string p2] 9)).alloc (.cells #[.int .u32 0, .int .u8 0, .int .u8 0] 25)) (.cells (qs.map Value.string).toArray 9)
    simpa using this
  · exact (((((Below.refl _ w).alloc (Nat.le_refl _) _).alloc (by simp) _).alloc (by simp; try omega) _).alloc (by simp; try omega) _)
theorem all_step {α : Type} (f : α → Bool) (l : List α) (k : Nat) (hk : k < l.length) : (l.take (k + 1)).all f = ((l.take k).all f && f (l[k]'hk)) := by
  rw [List.take_succ_eq_append_getElem hk, List.all_append]; simp
theorem take_snocB (l : List ByteArray) (k : Nat) (hk : k < l.length) : l.take (k + 1) = l.take k ++ [l[k]'hk] := List.take_succ_eq_append_getElem hk
theorem all_not {α : Type} (f : α → Bool) (l : List α) (k : Nat) (hk : k < l.length) (h : f (l[k]'hk) = false) : l.all f = false := by
  cases hh : l.all f with
  | false => rfl
  | true =>
    have := (List.all_eq_true.mp hh) _ (List.getElem_mem hk)
    rw [h] at this; exact absurd this (by decide)

set_option maxHeartbeats 8000000 in
set_option maxRecDepth 100000 in
theorem read_walk (s : ByteArray) (hs : s.size ≤ 100000) (p0 p1 p2 : ByteArray) (hps : pieces 32 s = [p0, p1, p2]) (w : World) (HT : TabA w) :
    Calls Tryz.prog 43 #[.string s] w fun e' w' => e' = .returned (retV (goodB s p0 p1 p2) (orL (pieces 43 p0)) (d8 p1) (d8 p2)) ∧ Below w.heap.size w w' := by
  have hzz := pieces_size 32 s
  rw [hps] at hzz
  have hz0 : p0.size ≤ 100000 := Nat.le_trans (hzz p0 (by simp)) hs
  have hz1 : p1.size ≤ 100000 := Nat.le_trans (hzz p1 (by simp)) hs
  have hz2 : p2.size ≤ 100000 := Nat.le_trans (hzz p2 (by simp)) hs
  have hq := pieces_size 43 p0
  have hn := pieces_length 43 p0
  have HS := RL.start w p0 p1 p2 (pieces 43 p0)
  have H1 := HT.below ((Below.refl _ w).alloc (Nat.le_refl _) (.cells #[.int .u32 0, .int .u8 0, .int .u8 0] 25))
  have H2 := H1.below ((Below.refl _ _).alloc (Nat.le_refl _) (.cells #[.string p0, .string p1, .string p2] 9))
  have H3 := H2.below ((Below.refl _ _).alloc (Nat.le_refl _) (.cells #[.int .u32 0, .int .u8 0, .int .u8 0] 25))
  have HSp0 := split_eq s 32 (by omega) _ H1
  rw [hps] at HSp0
  have HSp : Calls Tryz.prog 31 #[.string s, .string ⟨#[32]⟩] (w.alloc (.cells #[.int .u32 0, .int .u8 0, .int .u8 0] 25)) fun e w' => e = .returned (.slice (some ⟨w.heap.size + 1, 0, none⟩) 3 3) ∧ w' = (w.alloc (.cells #[.int .u32 0, .int .u8 0, .int .u8 0] 25)).alloc (.cells #[.string p0, .string p1, .string p2] 9) := by
    simpa using HSp0
  have HSq := split_eq p0 43 (by omega) _ H3
  have e3 : (((w.alloc (.cells #[.int .u32 0, .int .u8 0, .int .u8 0] 25)).alloc (.cells #[.string p0, .string p1, .string p2] 9)).alloc (.cells #[.int .u32 0, .int .u8 0, .int .u8 0] 25)).heap.size = w.heap.size + 1 + 1 + 1 := by simp
  rw [e3] at HSq
  have hG : Aside0 (goodB s p0 p1 p2 = ((pieces 43 p0).all okP && d8ok p1 && d8ok p2 && decide (textV (orL (pieces 43 p0)) (d8 p1) (d8 p2) = s))) := ⟨rfl⟩
  generalize pieces 43 p0 = qs at *
  generalize goodB s p0 p1 p2 = good at *
  have hz := Aside0.mk (And.intro hz0 (And.intro hz1 (And.intro hz2 hq)))
  clear hz0 hz1 hz2 hq hps H1 H2 e3 HSp0 hzz
  have b10 := (blk_cell (heap_alloc_new (w.alloc (.cells #[.int .u32 0, .int .u8 0, .int .u8 0] 25)) (.cells #[.string p0, .string p1, .string p2] 9)) 0).trans rfl
  go_enter Tryz.func43, Tryz.ntmps43
  go_wp2_with (fail)
  refine HSp.mono ?_
  rintro e w1 ⟨rfl, rfl⟩
  go_wp2_with (fail)
  refine HSq.mono ?_
  rintro e w1 ⟨rfl, rfl⟩
  clear HSq HSp H3 b10
  generalize (((w.alloc (.cells #[.int .u32 0, .int .u8 0, .int .u8 0] 25)).alloc (.cells #[.string p0, .string p1, .string p2] 9)).alloc (.cells #[.int .u32 0, .int .u8 0, .int .u8 0] 25)).alloc (.cells (qs.map Value.string).toArray 9) = W0 at *
  generalize hnl : qs.length = n at *
  have hn2 : n ≤ 200000 := by have := hz.out.1; omega
  have HSA := Aside0.mk HS
  have hnA := Aside0.mk hnl
  clear HS hnl
  go_wp2_with (fail)
  go_loopw [25] (fun v25 wr => ∃ k : Nat, v25 = .int .i64 k ∧ Aside0 (k ≤ n) ∧ Aside0 (RL w wr p0 p1 p2 qs (orL (qs.take k)) ∧ (qs.take k).all okP = true)) (fun v25 _ => n - (intOf v25).toNat)
  case atStart => exact ⟨0, rfl, ⟨Nat.zero_le _⟩, ⟨HSA.out, rfl⟩⟩
  case round =>
    obtain ⟨k, rfl, hk, hR⟩ := hrel
    by_cases hlt : k < n
    · obtain ⟨hL, hall⟩ := hR.out
      have hkq : k < qs.length := by have := hnA.out; omega
      obtain ⟨x, hx⟩ : ∃ x, x = qs[k]'hkq := ⟨_, rfl⟩
      have hxs : x.size ≤ 281474976710656 := by
        have := hz.out.2.2.2 x (by rw [hx]; exact List.getElem_mem hkq)
        have := hz.out.1
        omega
      have hc : wr.cell? ⟨w.heap.size + 1 + 1 + 1, k, none⟩ = some (.string x) := (blk_cell hL.s2 k).trans (by simp [hkq, hx])
      have HF := flag_any x hxs wr (HT.below hL.b)
      have hsn : Aside0 (orL (qs.take (k + 1)) = orL (qs.take k) ||| (flagV x).1 ∧ (qs.take (k + 1)).all okP = okP x) := ⟨by rw [take_snocB qs k hkq, orL_snoc, ← hx], by rw [all_step okP qs k hkq, hall, ← hx]; rfl⟩
      have hor := Go.u32_or_nat (orL (qs.take k)) (flagV x).1 (orL_lt _) (by have := flagV_lt x; omega)
      have hno : Aside0 (okP x = false → good = false) := ⟨fun h => by rw [hG.out, all_not okP qs k hkq (by rw [← hx]; exact h)]; rfl⟩
      have hok : Aside0 (okP x = ((flagV x).2 || decide (x = ⟨#[45]⟩))) := ⟨rfl⟩
      have hLA := Aside0.mk hL
      clear hL hall hR hxs hx hkq
      generalize (flagV x).1 = F at *
      generalize (flagV x).2 = B at *
      generalize orL (qs.take k) = acc at *
      by_cases hB : B = false ∧ x ≠ ⟨#[45]⟩
      · obtain ⟨rfl, hxd⟩ := hB
        have hxn : (x.toList == [45]) = false := by
          have h2 := ba_beq x ⟨#[45]⟩
          rw [decide_eq_false hxd, show (⟨#[45]⟩ : ByteArray).toList = [45] from by decide +kernel] at h2
          exact h2
        have hgf : good = false := hno.out (by rw [hok.out, decide_eq_false hxd]; rfl)
        clear hxd hor
        go_wp2_with (fail)
        refine HF.mono ?_
        rintro e w2 ⟨rfl, hb⟩
        have hL := hLA.out.below hb
        have c0 := (blk_cell hL.r 0).trans rfl
        have c1 := (blk_cell hL.r 1).trans rfl
        have c2 := (blk_cell hL.r 2).trans rfl
        have f0 := blk_frozen hL.r 0
        have f1 := blk_frozen hL.r 1
        have f2 := blk_frozen hL.r 2
        have hL2 := Aside0.mk hL
        clear hL
        go_wp2_with (fail)
        refine bodyPost_ret (results_ct rfl _ _ w.heap.size 25 #[.int .u32 0, .int .u8 0, .int .u8 0] (0, 0) _ rfl (by exact blk3 hL2.out.r _ _ _) Tryz.underlying25 rfl (by kernel_rfl)) rfl ?_
        exact ⟨by rw [hgf]; rfl, set3_below hL2.out.b (Nat.le_refl _) _ _ _⟩
      · have hokx : okP x = true := by
          rw [hok.out]
          by_cases hx : x = ⟨#[45]⟩
          · rw [decide_eq_true hx]; cases B <;> rfl
          · cases B
            · exact absurd ⟨rfl, hx⟩ hB
            · rfl
        have hS : Aside0 (orL (qs.take (k + 1)) = acc ||| F ∧ (qs.take (k + 1)).all okP = true) := ⟨hsn.out.1, hsn.out.2.trans hokx⟩
        have hxx : B = true ∨ (B = false ∧ (x.toList == [45]) = true) := by
          cases B
          · refine .inr ⟨rfl, ?_⟩
            have hx : x = ⟨#[45]⟩ := Classical.byContradiction fun h => hB ⟨rfl, h⟩
            have h2 := ba_beq x ⟨#[45]⟩
            rw [decide_eq_true hx, show (⟨#[45]⟩ : ByteArray).toList = [45] from by decide +kernel] at h2
            exact h2
          · exact .inl rfl
        clear hokx hB
        rcases hxx with rfl | ⟨rfl, hxn⟩
        all_goals
          go_wp2_with (fail)
          refine HF.mono ?_
          rintro e w2 ⟨rfl, hb⟩
          have hL := hLA.out.below hb
          have c0 := (blk_cell hL.a 0).trans rfl
          have f0 := blk_frozen hL.a 0
          have hL2 := Aside0.mk (hL.put (acc ||| F))
          clear hL
          go_wp2_with (fail)
          go_roundw
          case rel => exact ⟨k + 1, by go_num, ⟨by omega⟩, ⟨by rw [hS.out.1]; exact hL2.out, hS.out.2⟩⟩
          case measure => simp [intOf]; omega
    · obtain ⟨hL, hall⟩ := hR.out
      have hkn : k = n := by have := hk.out; omega
      rw [hkn, ← hnA.out, List.take_length] at hL hall
      have hG2 : Aside0 (good = (d8ok p1 && d8ok p2 && decide (textV (orL qs) (d8 p1) (d8 p2) = s))) := ⟨by rw [hG.out, hall]; rfl⟩
      have s1 := (blk_cell hL.s1 1).trans rfl
      have s2 := (blk_cell hL.s1 2).trans rfl
      have hTW := HT.below hL.b
      have hm1 := d8_lt p1
      have hm2 := d8_lt p2
      have hfl := orL_lt qs
      have hLA := Aside0.mk hL
      have hp1 : p1.size ≤ 281474976710656 := by have := hz.out.2.1; omega
      have hp2 : p2.size ≤ 281474976710656 := by have := hz.out.2.2.1; omega
      have C1 := fun W HT => pu8_any p1 hp1 W HT
      have C2 := fun W HT => pu8_any p2 hp2 W HT
      clear hL hall hkn hR hp1 hp2
      generalize hem1 : d8 p1 = m1 at *
      generalize hem2 : d8 p2 = m2 at *
      generalize hefl : orL qs = fl at *
      have hE := Aside0.mk (And.intro hefl (And.intro hem1 hem2))
      clear hem1 hem2 hefl
      generalize d8ok p1 = b1 at *
      generalize d8ok p2 = b2 at *
      go_wp2_with (fail)
      refine (C1 _ hTW).mono ?_
      rintro e w3 ⟨ev1, rfl, he1, hb3⟩
      have hL3 := hLA.out.below hb3
      have s2 := (blk_cell hL3.s1 2).trans rfl
      have hTW := HT.below hL3.b
      have hLB := Aside0.mk hL3
      clear hL3 hb3
      go_wp2_with (fail)
      refine (C2 _ hTW).mono ?_
      rintro e w4 ⟨ev2, rfl, he2, hb4⟩
      have hL4 := hLB.out.below hb4
      have a0 := (blk_cell hL4.a 0).trans rfl
      have a1 := (blk_cell hL4.a 1).trans rfl
      have a2 := (blk_cell hL4.a 2).trans rfl
      have f1 := blk_frozen hL4.a 1
      have f2 := blk_frozen hL4.a 2
      have r0 := (blk_cell hL4.r 0).trans rfl
      have r1 := (blk_cell hL4.r 1).trans rfl
      have r2 := (blk_cell hL4.r 2).trans rfl
      have g0 := blk_frozen hL4.r 0
      have g1 := blk_frozen hL4.r 1
      have g2 := blk_frozen hL4.r 2
      have hLC := Aside0.mk hL4
      clear hL4 hb4 C1 C2
      have hr' : ((w4.setCell ⟨w.heap.size + 1 + 1, 1, none⟩ (.int .u8 m1)).setCell ⟨w.heap.size + 1 + 1, 2, none⟩ (.int .u8 m2)).heap[w.heap.size]? = some (.cells #[.int .u32 0, .int .u8 0, .int .u8 0] 25 (0, 0)) := (Below.heap_setCell _ _ _ _ (by simp; try omega)).trans ((Below.heap_setCell _ _ _ _ (by simp; try omega)).trans hLC.out.r)
      have ha' : ((w4.setCell ⟨w.heap.size + 1 + 1, 1, none⟩ (.int .u8 m1)).setCell ⟨w.heap.size + 1 + 1, 2, none⟩ (.int .u8 m2)).heap[w.heap.size + 1 + 1]? = some (.cells #[.int .u32 fl, .int .u8 m1, .int .u8 m2] 25 (0, 0)) := blk_put (cs := #[.int .u32 fl, .int .u8 m1, .int .u8 0]) (blk_put (cs := #[.int .u32 fl, .int .u8 0, .int .u8 0]) hLC.out.a 1 _ rfl) 2 _ rfl
      have hb' : Below w.heap.size w ((w4.setCell ⟨w.heap.size + 1 + 1, 1, none⟩ (.int .u8 m1)).setCell ⟨w.heap.size + 1 + 1, 2, none⟩ (.int .u8 m2)) := set_below (set_below hLC.out.b (by omega) _ _) (by omega) _ _
      have hT' := HT.below hb'
      have hRA := Aside0.mk hr'
      have hAA := Aside0.mk ha'
      have hBA := Aside0.mk hb'
      have HTx := fun (w' : World) (h : TabA w') => text_a fl m1 m2 hfl hm1 hm2 w' h.tt
      clear hr' ha' hb'
      rcases he1 with ⟨rfl, N1, rfl⟩ | ⟨rfl, rfl⟩
      · have hgf : good = false := hG2.out
        clear HTx
        go_wp2_with (fail)
        refine bodyPost_ret (results_ct rfl _ _ w.heap.size 25 #[.int .u32 0, .int .u8 0, .int .u8 0] (0, 0) _ rfl (by exact blk3 hRA.out _ _ _) Tryz.underlying25 rfl (by kernel_rfl)) rfl ?_
        exact ⟨by rw [hgf]; rfl, set3_below hBA.out (Nat.le_refl _) _ _ _⟩
      · rcases he2 with ⟨rfl, N2, rfl⟩ | ⟨rfl, rfl⟩
        · have hgf : good = false := hG2.out
          clear HTx
          go_wp2_with (fail)
          refine bodyPost_ret (results_ct rfl _ _ w.heap.size 25 #[.int .u32 0, .int .u8 0, .int .u8 0] (0, 0) _ rfl (by exact blk3 hRA.out _ _ _) Tryz.underlying25 rfl (by kernel_rfl)) rfl ?_
          exact ⟨by rw [hgf]; rfl, set3_below hBA.out (Nat.le_refl _) _ _ _⟩
        · have hts := ba_beq (textV fl m1 m2) s
          have hG3 : Aside0 (good = decide (textV fl m1 m2 = s)) := ⟨hG2.out⟩
          generalize textV fl m1 m2 = T at *
          go_wp2_with (fail)
          refine (HTx _ hT').mono ?_
          rintro e w5 ⟨rfl, hb5⟩
          have hr5 := (hb5.block _ (lt_of_block hRA.out)).trans hRA.out
          have ha5 := (hb5.block _ (lt_of_block hAA.out)).trans hAA.out
          have hbb5 := hBA.out.trans (hb5.mono hBA.out.size)
          have a0 := (blk_cell ha5 0).trans rfl
          have a1 := (blk_cell ha5 1).trans rfl
          have a2 := (blk_cell ha5 2).trans rfl
          have r0 := (blk_cell hr5 0).trans rfl
          have r1 := (blk_cell hr5 1).trans rfl
          have r2 := (blk_cell hr5 2).trans rfl
          have g0 := blk_frozen hr5 0
          have g1 := blk_frozen hr5 1
          have g2 := blk_frozen hr5 2
          have hRB := Aside0.mk hr5
          have hBB := Aside0.mk hbb5
          clear hr5 ha5 hbb5 hb5 hT' HTx
          by_cases hTs : T = s
          · have hgt : good = true := by rw [hG3.out, decide_eq_true hTs]
            have hts' : (T.toList == s.toList) = true := by rw [hts, decide_eq_true hTs]
            clear hts hTs
            go_wp2_with (fail)
            refine bodyPost_ret (results_ct rfl _ _ w.heap.size 25 #[.int .u32 fl, .int .u8 m1, .int .u8 m2] (0, 0) _ rfl (by exact blk3 hRB.out _ _ _) Tryz.underlying25 rfl (by kernel_rfl)) rfl ?_
            exact ⟨by rw [hgt, hE.out.1, hE.out.2.1, hE.out.2.2]; rfl, set3_below hBB.out (Nat.le_refl _) _ _ _⟩
          · have hgf : good = false := by rw [hG3.out, decide_eq_false hTs]
            have hts' : (T.toList == s.toList) = false := by rw [hts, decide_eq_false hTs]
            clear hts hTs
            go_wp2_with (fail)
            refine bodyPost_ret (results_ct rfl _ _ w.heap.size 25 #[.int .u32 0, .int .u8 0, .int .u8 0] (0, 0) _ rfl (by exact blk3 hRB.out _ _ _) Tryz.underlying25 rfl (by kernel_rfl)) rfl ?_
            exact ⟨by rw [hgf]; rfl, set3_below hBB.out (Nat.le_refl _) _ _ _⟩

end Go.Proofs.YtbiogabekhegaaaGreatDoor.Hand
