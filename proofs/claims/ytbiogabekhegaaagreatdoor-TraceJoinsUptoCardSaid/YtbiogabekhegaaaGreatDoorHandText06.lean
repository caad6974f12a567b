/- attrs.Text: the tables, and the walk's first part. -/
import Derived.Test.YtbiogabekhegaaaGreatDoorHandFmt
import Derived.Test.YtbiogabekhegaaaGreatDoorHandShelf
import Derived.Test.YtbiogabekhegaaaGreatDoorWMore
import Derived.Lib.SmallJoins
import Derived.Deep.RegionHeld3
import Derived.Lib.ItoaLen
import Derived.Lib.AppendIntMem
namespace Go.Proofs.YtbiogabekhegaaaGreatDoor.Hand
open Go.RowKit Go.Proofs.YtbiogabekhegaaaGreatDoorW.PrintWords Go.Proofs.YtbiogabekhegaaaGreatDoorW.PrintLast
set_option linter.unusedVariables false
set_option linter.unusedSimpArgs false

def nameL : List (List UInt8) := [[101, 99, 104, 111], [99, 97, 110, 111, 110], [115, 105, 103, 110, 97, 108, 115], [101, 120, 116, 101, 110, 100], [102, 108, 111, 119], [99, 114, 116, 111, 110, 108], [112, 111, 115, 116]]
def nm (j : Nat) : ByteArray := ⟨(nameL.getD j []).toArray⟩
def NamesIn (w : World) : Prop := ∀ j, j < 7 → w.cell? ⟨0, j, none⟩ = some (.string (nm j))
theorem gPow : Tryz.prog.globalNamed "internal/strconv.uint64pow10" = some 2 := by kernel_rfl
structure TabT (w : World) : Prop where
  nm : NamesIn w
  pow : Lib.TabIs Tryz.prog w "internal/strconv.uint64pow10" .u64 Lib.pow10Tab
  tz : w.cell? ⟨8, 15, none⟩ = some (.int .u8 4)
theorem cell_stays {W W' : World} {p : Addr} {v : Value} (h : W.cell? p = some v) (hb : Below W.heap.size W W') : W'.cell? p = some v := (hb.cell (World.block_lt_of_cell? W _ h)).trans h
theorem TabT.below {w W : World} (h : TabT w) (hb : Below w.heap.size w W) : TabT W := ⟨fun j hj => cell_stays (h.nm j hj) hb, Joins.tab_stays gPow h.pow hb (Nat.le_refl _), cell_stays h.tz hb⟩
/-- The flags' names, of the first j. -/
def flagL (fl : Nat) : Nat → List ByteArray
  | 0 => []
  | j + 1 => if fl / 2 ^ j % 2 = 1 then flagL fl j ++ [nm j] else flagL fl j
set_option maxRecDepth 100000 in
theorem tix_0 (w : World) : (Instr.index 98 (.agg #[.string ⟨#[101, 99, 104, 111]⟩, .string ⟨#[99, 97, 110, 111, 110]⟩, .string ⟨#[115, 105, 103, 110, 97, 108, 115]⟩, .string ⟨#[101, 120, 116, 101, 110, 100]⟩, .string ⟨#[102, 108, 111, 119]⟩, .string ⟨#[99, 114, 116, 111, 110, 108]⟩, .string ⟨#[112, 111, 115, 116]⟩]) (.int .i64 0)).run Tryz.prog w = .ok (.string ⟨#[101, 99, 104, 111]⟩) w := by rfl
set_option maxRecDepth 100000 in
theorem tix_1 (w : World) : (Instr.index 98 (.agg #[.string ⟨#[101, 99, 104, 111]⟩, .string ⟨#[99, 97, 110, 111, 110]⟩, .string ⟨#[115, 105, 103, 110, 97, 108, 115]⟩, .string ⟨#[101, 120, 116, 101, 110, 100]⟩, .string ⟨#[102, 108, 111, 119]⟩, .string ⟨#[99, 114, 116, 111, 110, 108]⟩, .string ⟨#[112, 111, 115, 116]⟩]) (.int .i64 1)).run Tryz.prog w = .ok (.string ⟨#[99, 97, 110, 111, 110]⟩) w := by rfl
set_option maxRecDepth 100000 in
theorem tix_2 (w : World) : (Instr.index 98 (.agg #[.string ⟨#[101, 99, 104, 111]⟩, .string ⟨#[99, 97, 110, 111, 110]⟩, .string ⟨#[115, 105, 103, 110, 97, 108, 115]⟩, .string ⟨#[101, 120, 116, 101, 110, 100]⟩, .string ⟨#[102, 108, 111, 119]⟩, .string ⟨#[99, 114, 116, 111, 110, 108]⟩, .string ⟨#[112, 111, 115, 116]⟩]) (.int .i64 2)).run Tryz.prog w = .ok (.string ⟨#[115, 105, 103, 110, 97, 108, 115]⟩) w := by rfl
set_option maxRecDepth 100000 in
theorem tix_3 (w : World) : (Instr.index 98 (.agg #[.string ⟨#[101, 99, 104, 111]⟩, .string ⟨#[99, 97, 110, 111, 110]⟩, .string ⟨#[115, 105, 103, 110, 97, 108, 115]⟩, .string ⟨#[101, 120, 116, 101, 110, 100]⟩, .string ⟨#[102, 108, 111, 119]⟩, .string ⟨#[99, 114, 116, 111, 110, 108]⟩, .string ⟨#[112, 111, 115, 116]⟩]) (.int .i64 3)).run Tryz.prog w = .ok (.string ⟨#[101, 120, 116, 101, 110, 100]⟩) w := by rfl
set_option maxRecDepth 100000 in
theorem tix_4 (w : World) : (Instr.index 98 (.agg #[.string ⟨#[101, 99, 104, 111]⟩, .string ⟨#[99, 97, 110, 111, 110]⟩, .string ⟨#[115, 105, 103, 110, 97, 108, 115]⟩, .string ⟨#[101, 120, 116, 101, 110, 100]⟩, .string ⟨#[102, 108, 111, 119]⟩, .string ⟨#[99, 114, 116, 111, 110, 108]⟩, .string ⟨#[112, 111, 115, 116]⟩]) (.int .i64 4)).run Tryz.prog w = .ok (.string ⟨#[102, 108, 111, 119]⟩) w := by rfl
set_option maxRecDepth 100000 in
theorem tix_5 (w : World) : (Instr.index 98 (.agg #[.string ⟨#[101, 99, 104, 111]⟩, .string ⟨#[99, 97, 110, 111, 110]⟩, .string ⟨#[115, 105, 103, 110, 97, 108, 115]⟩, .string ⟨#[101, 120, 116, 101, 110, 100]⟩, .string ⟨#[102, 108, 111, 119]⟩, .string ⟨#[99, 114, 116, 111, 110, 108]⟩, .string ⟨#[112, 111, 115, 116]⟩]) (.int .i64 5)).run Tryz.prog w = .ok (.string ⟨#[99, 114, 116, 111, 110, 108]⟩) w := by rfl
set_option maxRecDepth 100000 in
theorem tix_6 (w : World) : (Instr.index 98 (.agg #[.string ⟨#[101, 99, 104, 111]⟩, .string ⟨#[99, 97, 110, 111, 110]⟩, .string ⟨#[115, 105, 103, 110, 97, 108, 115]⟩, .string ⟨#[101, 120, 116, 101, 110, 100]⟩, .string ⟨#[102, 108, 111, 119]⟩, .string ⟨#[99, 114, 116, 111, 110, 108]⟩, .string ⟨#[112, 111, 115, 116]⟩]) (.int .i64 6)).run Tryz.prog w = .ok (.string ⟨#[112, 111, 115, 116]⟩) w := by rfl
theorem andnot127 (x : Nat) (h : x < 4294967296) : bits .andNot .u32 (x : Int) 127 = ((x - x % 128 : Nat) : Int) := by
  have key : ∀ y : BitVec 32, y &&& ~~~(127#32) = (y >>> 7) <<< 7 := by
    intro y
    have hm : ∀ i : Nat, i < 32 → (~~~(127#32)).getLsbD i = decide (7 ≤ i) := by decide
    apply BitVec.eq_of_getLsbD_eq
    intro i hi
    rw [BitVec.getLsbD_and, hm i hi, BitVec.getLsbD_shiftLeft, BitVec.getLsbD_ushiftRight]
    by_cases h7 : 7 ≤ i
    · simp [h7, hi, show 7 + (i - 7) = i by omega, show ¬ i < 7 by omega]
    · simp [h7, show i < 7 by omega]
  show IntKind.u32.wrap ((BitVec.ofInt 32 (x : Int) &&& ~~~(BitVec.ofInt 32 127)).toNat : Int) = _
  rw [show BitVec.ofInt 32 127 = 127#32 from rfl, key, BitVec.toNat_shiftLeft, BitVec.toNat_ushiftRight, BitVec.toNat_ofInt, IntKind.wrap_u32', Nat.shiftLeft_eq, Nat.shiftRight_eq_div_pow]
  omega
theorem info9 : (Tryz.prog.info? 9).map (fun i => (i.zero, i.size, i.bytes)) = some (some (.string ⟨#[]⟩), 1, 16) := by kernel_rfl
theorem and1 (x : Nat) (h : x < 4294967296) : bits .and .u32 (x : Int) 1 = ((x % 2 : Nat) : Int) := by
  have := Go.u32_and_nat x 1 h (by omega)
  rw [show ((1 : Nat) : Int) = 1 from rfl] at this
  rw [this, show (1 : Nat) = 2 ^ 1 - 1 from rfl, Nat.and_two_pow_sub_one_eq_mod]
/-- What is left of the flags, beside the seven names. -/
def restL (r : Nat) : List ByteArray := if r = 0 then [] else [⟨(120 :: digs 16 r).toArray⟩]
def allL (fl : Nat) : List ByteArray := flagL fl 7 ++ restL (fl - fl % 128)
def partL (fl : Nat) : List ByteArray := if (allL fl).length = 0 then [⟨#[45]⟩] else allL fl
def joinV (xs : List ByteArray) : ByteArray := ⟨(Lib.join (xs.map (·.data.toList)) [43]).toArray⟩
def itoaV (n : Nat) : ByteArray := ⟨(Lib.itoa n).toArray⟩
def wordsV (a b c : ByteArray) : ByteArray := ⟨(Lib.join [a.data.toList, b.data.toList, c.data.toList] [32]).toArray⟩
def textV (fl mn tm : Nat) : ByteArray := wordsV (joinV (partL fl)) (itoaV mn) (itoaV tm)
def Small (xs : List ByteArray) : Prop := xs.length ≤ 8 ∧ ∀ x, x ∈ xs → x.data.toList.length ≤ 20
theorem lens_le (l : List (List UInt8)) (h : ∀ x, x ∈ l → x.length ≤ 20) : Lib.lens l ≤ 20 * l.length := by
  induction l with
  | nil => simp [Lib.lens]
  | cons a r ih =>
    have h1 := h a List.mem_cons_self
    have h2 := ih (fun x hx => h x (List.mem_cons_of_mem _ hx))
    simp only [Lib.lens, List.map_cons, List.sum_cons, List.length_cons, List.flatten_cons, List.length_append] at *
    omega
theorem join_le (l : List (List UInt8)) (b : UInt8) (h8 : l.length ≤ 8) (h : ∀ x, x ∈ l → x.length ≤ 20) : (Lib.join l [b]).length ≤ 1000 := by
  cases l with
  | nil => simp [Lib.join_nil]
  | cons a r =>
    rw [Lib.join_length]
    have := lens_le (a :: r) h
    simp only [List.length_cons, List.length_nil] at *
    omega
theorem small_join {xs : List ByteArray} (h : Small xs) (b : UInt8) : (Lib.join (xs.map (·.data.toList)) [b]).length ≤ 1000 :=
  join_le _ b (by simpa using h.1) (by intro x hx; obtain ⟨y, hy, rfl⟩ := List.mem_map.mp hx; exact h.2 y hy)
theorem flag_small (fl : Nat) : ∀ j, j ≤ 7 → (flagL fl j).length ≤ j ∧ ∀ x, x ∈ flagL fl j → x.data.toList.length ≤ 20 := by
  intro j
  induction j with
  | zero => intro _; exact ⟨Nat.le_refl _, fun x hx => by simp [flagL] at hx⟩
  | succ j ih =>
    intro hj
    obtain ⟨h1, h2⟩ := ih (by omega)
    have hnm : ∀ j, j < 7 → (nm j).data.toList.length ≤ 20 := by decide
    unfold flagL
    split
    · refine ⟨by simp; omega, fun x hx => ?_⟩
      rcases List.mem_append.mp hx with hx | hx
      · exact h2 x hx
      · rw [List.mem_singleton.mp hx]; exact hnm j (by omega)
    · exact ⟨by omega, h2⟩
theorem digs16_len (n u : Nat) (h0 : 0 < n) (h : u < 16 ^ n) : (digs 16 u).length ≤ n := by
  induction n generalizing u with
  | zero => omega
  | succ n ih =>
    by_cases hu : u < 16
    · rw [digs_lt u hu]; simp
    · rw [digs_ge u (by omega), List.length_append]
      have hn : 0 < n := by
        rcases Nat.eq_zero_or_pos n with rfl | hn
        · simp at h; omega
        · exact hn
      have := ih (u / 16) hn (by rw [Nat.pow_succ] at h; omega)
      simp; omega
theorem all_small (fl : Nat) (h : fl < 4294967296) : Small (allL fl) := by
  obtain ⟨h1, h2⟩ := flag_small fl 7 (Nat.le_refl _)
  unfold allL restL
  have hd := digs16_len 8 (fl - fl % 128) (by omega) (by omega)
  split
  · rw [List.append_nil]; exact ⟨by omega, h2⟩
  · refine ⟨by simp; omega, fun x hx => ?_⟩
    rcases List.mem_append.mp hx with hx | hx
    · exact h2 x hx
    · rw [List.mem_singleton.mp hx]; simp; omega
theorem cells_of {W : World} {g n : Nat} {xs : List ByteArray} (hC : Kd.string.C W (some ⟨g, 0, none⟩) n xs) (hn : xs.length = n) : ∀ (j : Nat) x, xs[j]? = some x → W.cell? ⟨g, 0 + j, none⟩ = some (.string x) := by
  intro j x hx
  have hj := (List.getElem?_eq_some_iff.mp hx).1
  obtain ⟨ad, he, h⟩ := Kd.at_string hC j (by omega) (by omega)
  injection he with he; subst he
  have h2 : W.cell? ⟨g, 0 + j, none⟩ = some (.string (rdOf ByteArray.empty xs j)) := by
    rw [Int.toNat_natCast] at h
    have ha : (⟨g, 0, none⟩ : Addr).add j = ⟨g, 0 + j, none⟩ := by
      unfold Addr.add
      split
      · rename_i h0; rw [h0]
      · rfl
    rw [ha] at h; exact h
  rw [h2]; simp [rdOf, hx]
theorem join_ok (xs : List ByteArray) (g cp n : Nat) (Wx : World) (hn : xs.length = n) (hcp : n ≤ cp) (hc : ∀ (j : Nat) x, xs[j]? = some x → Wx.cell? ⟨g, 0 + j, none⟩ = some (.string x)) (hg : g < Wx.heap.size) (hs : Small xs) (w' : World) (hb : Below Wx.heap.size Wx w') :
    Calls Tryz.prog 44 #[.slice (some ⟨g, 0, none⟩) n cp, .string ⟨#[43]⟩] w' fun e w'' => e = .returned (.string (joinV xs)) ∧ Below w'.heap.size w' w'' := by
  subst hn
  have h8 := hs.1
  have hl := small_join hs 43
  exact Tryz.strings_Join g 0 cp xs ⟨#[43]⟩ w' (fun j x hx => cell_stays (hc j x hx) hb) (Nat.lt_of_lt_of_le hg hb.size) (by omega) hcp (by show (Lib.join (xs.map (·.data.toList)) [43]).length ≤ _; omega)
theorem itoa_ok (n : Nat) (hn : n < 256) {w w' : World} (HT : TabT w) (hb : Below w.heap.size w w') :
    Calls Tryz.prog 46 #[.int .i64 n] w' fun e w'' => e = .returned (.string (itoaV n)) ∧ Below w'.heap.size w' w'' := by
  refine (Tryz.strconv_Itoa n (by omega) (by omega) w' (HT.below hb).pow).mono ?_
  rintro e w'' ⟨rfl, k, os, rfl⟩
  exact ⟨rfl, (Lib.below_grow _ w' (Nat.le_refl _) k os)⟩
theorem cell_stays0 {W W' : World} {p : Addr} {v : Value} (h : W.cell? p = some v) (hb : Below W.heap.size W W') : W'.cell? p = some v := cell_stays h hb
theorem hex_app (l : List UInt8) : (⟨#[120]⟩ : ByteArray) ++ ⟨l.toArray⟩ = ⟨(120 :: l).toArray⟩ := by
  apply ByteArray.ext
  rw [ByteArray.data_append]
  simp
theorem R_stay {W W' : World} {b : Nat} {v : Value} {xs : List ByteArray} (h : Kd.R Kd.string 9 W b (fun _ => True) v xs) (hb : Below W.heap.size W W') : Kd.R Kd.string 9 W' b (fun _ => True) v xs :=
  Kd.R_mono (Kd.R_move (Kd.R_bound h) (fun k hk => hb.block k hk.2.2.1)) (fun _ hk => hk.1)
theorem itoa_okw (n : Nat) (hn : n < 256) {w w' : World} (HT : TabT w) (hb : Below w.heap.size w w') :
    Calls Tryz.prog 46 #[.int .i64 (IntKind.i64.wrap (n : Int))] w' fun e w'' => e = .returned (.string (itoaV n)) ∧ Below w'.heap.size w' w'' := by
  rw [show IntKind.i64.wrap (n : Int) = (n : Int) by rw [IntKind.wrap_i64]; omega]
  exact itoa_ok n hn HT hb
theorem post_app {W : World} {b : Nat} {v : Value} {l : List ByteArray} {x : ByteArray} (h : Kd.R Kd.string 9 W b (fun _ => True) v (l ++ [x])) :
    ∃ (g cp n : Nat), v = .slice (some ⟨g, 0, none⟩) n cp ∧ Aside0 ((l ++ [x]).length = n) ∧ ((n : Int) == 0) = false ∧ Aside0 (n ≤ cp ∧ g < W.heap.size ∧ ∀ (j : Nat) y, (l ++ [x])[j]? = some y → W.cell? ⟨g, 0 + j, none⟩ = some (.string y)) := by
  have hl : 0 < (l ++ [x]).length := by rw [List.length_append, List.length_singleton]; omega
  obtain ⟨g, cp, rfl, -, hg, -⟩ := Kd.R_form h hl
  obtain ⟨-, hcp, hC⟩ := Kd.R_reads' h
  have hz : (((l ++ [x]).length : Int) == 0) = false := beq_eq_false_iff_ne.mpr (by omega)
  exact ⟨g, cp, _, rfl, ⟨rfl⟩, hz, ⟨⟨hcp, hg, cells_of hC rfl⟩⟩⟩
theorem itoaV_len (n : Nat) (hn : n < 256) : (itoaV n).data.toList.length ≤ 30 := by
  have := Lib.itoa_length_le (n : Int) (by omega) (by omega)
  show (Lib.itoa (n : Int)).length ≤ 30
  omega
theorem keepB0 {b0 : Nat} {w W W' : World} (h : Below b0 w W) (hb : Below W.heap.size W W') (h0 : b0 ≤ W.heap.size) : Below b0 w W' := h.trans (hb.mono h0)
theorem keepW {w W W' : World} (h : Below w.heap.size w W) (hb : Below W.heap.size W W') : Below w.heap.size w W' := h.trans (hb.mono h.size)
set_option maxHeartbeats 2000000 in
set_option maxRecDepth 100000 in
theorem words_ok (a b c : ByteArray) (ha : a.data.toList.length ≤ 1000) (hb : b.data.toList.length ≤ 30) (hc : c.data.toList.length ≤ 30) (w' : World) :
    Calls Tryz.prog 62 #[.slice (some ⟨w'.heap.size, 0, none⟩) 3 3] (w'.alloc (.cells #[.string a, .string b, .string c] 9)) fun e w'' => e = .returned (.string (wordsV a b c)) ∧ Below w'.heap.size w' w'' := by
  have hblk := heap_alloc_new w' (.cells #[.string a, .string b, .string c] 9)
  have hh := below_alloc (Below.refl w'.heap.size w') (.cells #[.string a, .string b, .string c] 9)
  have hlt : w'.heap.size < (w'.alloc (.cells #[.string a, .string b, .string c] 9)).heap.size := World.block_lt_of_cell? _ _ ((blk_cell hblk 0).trans rfl)
  go_enter Tryz.func62, Tryz.ntmps62
  go_wp2_with (fail)
  refine (Tryz.strings_Join w'.heap.size 0 3 [a, b, c] ⟨#[32]⟩ _ ?_ hlt (by simp) (by simp) ?_).mono ?_
  · intro j x hx
    match j, hx with
    | 0, hx => injection hx with hx; subst hx; exact (blk_cell hblk 0).trans rfl
    | 1, hx => injection hx with hx; subst hx; exact (blk_cell hblk 1).trans rfl
    | 2, hx => injection hx with hx; subst hx; exact (blk_cell hblk 2).trans rfl
    | j + 3, hx => simp at hx
  · show (Lib.join [a.data.toList, b.data.toList, c.data.toList] [32]).length ≤ _
    rw [Lib.join_length]
    simp [Lib.lens] at *
    omega
  · rintro e w1 ⟨rfl, hb1⟩
    go_wp2_with (fail)
    go_ret
    exact ⟨rfl, keepW hh hb1⟩
set_option maxHeartbeats 2000000 in
set_option maxRecDepth 100000 in
theorem text_a (fl mn tm : Nat) (hfl : fl < 4294967296) (hmn : mn < 256) (htm : tm < 256) (w : World) (HT : TabT w) :
    Calls Tryz.prog 41 #[.agg #[.int .u32 fl, .int .u8 mn, .int .u8 tm]] w fun e w' => e = .returned (.string (textV fl mn tm)) ∧ Below w.heap.size w w' := by
  have z0 := below_alloc (Below.refl w.heap.size w) (.cells #[.int .u32 fl, .int .u8 mn, .int .u8 tm] 25)
  have hN := (HT.below z0).nm
  have n0 := (hN 0 (by omega)).trans (show some (Value.string (nm 0)) = some (.string ⟨#[101, 99, 104, 111]⟩) from rfl)
  have n1 := (hN 1 (by omega)).trans (show some (Value.string (nm 1)) = some (.string ⟨#[99, 97, 110, 111, 110]⟩) from rfl)
  have n2 := (hN 2 (by omega)).trans (show some (Value.string (nm 2)) = some (.string ⟨#[115, 105, 103, 110, 97, 108, 115]⟩) from rfl)
  have n3 := (hN 3 (by omega)).trans (show some (Value.string (nm 3)) = some (.string ⟨#[101, 120, 116, 101, 110, 100]⟩) from rfl)
  have n4 := (hN 4 (by omega)).trans (show some (Value.string (nm 4)) = some (.string ⟨#[102, 108, 111, 119]⟩) from rfl)
  have n5 := (hN 5 (by omega)).trans (show some (Value.string (nm 5)) = some (.string ⟨#[99, 114, 116, 111, 110, 108]⟩) from rfl)
  have n6 := (hN 6 (by omega)).trans (show some (Value.string (nm 6)) = some (.string ⟨#[112, 111, 115, 116]⟩) from rfl)
  have hblk := heap_alloc_new w (.cells #[.int .u32 fl, .int .u8 mn, .int .u8 tm] 25)
  go_enter Tryz.func41, Tryz.ntmps41
  go_wp2_with (fail)
  have c0 := (blk_cell hblk 0).trans rfl
  have HB0 := Aside0.mk (Below.refl (w.alloc (.cells #[.int .u32 fl, .int .u8 mn, .int .u8 tm] 25)).heap.size (w.alloc (.cells #[.int .u32 fl, .int .u8 mn, .int .u8 tm] 25)))
  have HR0 : Aside0 (Kd.R Kd.string 9 (w.alloc (.cells #[.int .u32 fl, .int .u8 mn, .int .u8 tm] 25)) (w.alloc (.cells #[.int .u32 fl, .int .u8 mn, .int .u8 tm] 25)).heap.size (fun _ => True) (.slice none 0 0) (flagL fl 0)) := ⟨Kd.R_nil _ _ _ _ _⟩
  clear hN n0 n1 n2 n3 n4 n5 n6
  generalize hW0 : (w.alloc (.cells #[.int .u32 fl, .int .u8 mn, .int .u8 tm] 25)) = W0 at *
  go_loopg [3, 8] 7 (fun kq v3 v8 w' => ∃ j : Nat, v8 = .int .i64 j ∧ Aside0 (j ≤ 7 ∧ 7 - j ≤ kq) ∧ Aside0 (Kd.R Kd.string 9 w' W0.heap.size (fun _ => True) v3 (flagL fl j)) ∧ Aside0 ((flagL fl j).length ≤ j) ∧ Aside0 (Below W0.heap.size W0 w'))
  case atStart => exact ⟨0, rfl, ⟨by omega⟩, HR0, ⟨by simp [flagL]⟩, HB0⟩
  case round =>
    clear HR0 HB0
    obtain ⟨j, rfl, hk, HR, HL, HB⟩ := hrel
    have k0 := cell_stays c0 HB.out
    have hk' := hk.out
    obtain rfl | rfl | rfl | rfl | rfl | rfl | rfl | rfl : j = 0 ∨ j = 1 ∨ j = 2 ∨ j = 3 ∨ j = 4 ∨ j = 5 ∨ j = 6 ∨ j = 7 := by omega
    · obtain ⟨k, rfl⟩ : ∃ k, gk = k + 1 := ⟨gk - 1, by omega⟩
      have hk2 := Aside0.mk (show 1 ≤ 7 ∧ 7 - 1 ≤ k by omega)
      obtain ⟨d, hd, ba⟩ : ∃ d : Nat, Aside0 (fl / 2 ^ 0 % 2 = d) ∧ bits .and .u32 (fl : Int) 1 = (d : Int) := ⟨_, ⟨rfl⟩, by
        have := and1 (fl / 2 ^ 0) (Nat.lt_of_le_of_lt (Nat.div_le_self _ _) hfl)
        rw [show ((fl / 2 ^ 0 : Nat) : Int) = (fl : Int) by omega] at this
        exact this⟩
      have hL := HL.out
      have hxx := tix_0
      clear hk hk'
      by_cases h1 : d = 1
      · have hfl2 : flagL fl 1 = flagL fl 0 ++ [⟨#[101, 99, 104, 111]⟩] := if_pos (hd.out.trans h1)
        subst h1
        go_wp2_with (first | (at_builtin; refine Kd.R_append Kd.string (w0 := W0) W0.heap.size rfl (.tmp 18) (.tmp 20) 67 9 (.string ⟨#[]⟩) 16 rfl Tryz.underlying67 info9 rfl (by decide) (by omega) u3 (flagL fl 0) (⟨#[101, 99, 104, 111]⟩ : ByteArray) [.string (⟨#[101, 99, 104, 111]⟩ : ByteArray)] (fun _ => True) (fun _ => False) rfl rfl ?aP (fun _ hk => hk.elim) ?aF ?aO ?aB ?aS ?aL ?_; (case aP => exact rfl); (case aB => exact HB.out); (case aF => exact (fun _ _ => trivial)); (case aO => exact HR.out); (case aS => exact below_size HB.out); (case aL => omega); intro v2 w2 ho hb hg hat))
        go_roundg k
        case measure => omega
        case rel => exact ⟨1, rfl, hk2, ⟨by rw [hfl2]; exact ho⟩, ⟨by rw [hfl2, List.length_append, List.length_singleton]; have := HL.out; omega⟩, ⟨hb⟩⟩
      · have hfl2 : flagL fl 1 = flagL fl 0 := if_neg (by rw [hd.out]; exact h1)
        have h1' : ((d : Int) == 1) = false := by simp; omega
        clear h1
        go_wp2_with (fail)
        go_roundg k
        case measure => omega
        case rel => exact ⟨1, rfl, hk2, ⟨by rw [hfl2]; exact HR.out⟩, ⟨by rw [hfl2]; omega⟩, HB⟩
    · obtain ⟨k, rfl⟩ : ∃ k, gk = k + 1 := ⟨gk - 1, by omega⟩
      have hk2 := Aside0.mk (show 2 ≤ 7 ∧ 7 - 2 ≤ k by omega)
      obtain ⟨d, hd, ba⟩ : ∃ d : Nat, Aside0 (fl / 2 ^ 1 % 2 = d) ∧ bits .and .u32 ((fl : Int) / 2) 1 = (d : Int) := ⟨_, ⟨rfl⟩, by
        have := and1 (fl / 2 ^ 1) (Nat.lt_of_le_of_lt (Nat.div_le_self _ _) hfl)
        rw [show ((fl / 2 ^ 1 : Nat) : Int) = ((fl : Int) / 2) by omega] at this
        exact this⟩
      have hL := HL.out
      have hxx := tix_1
      clear hk hk'
      by_cases h1 : d = 1
      · have hfl2 : flagL fl 2 = flagL fl 1 ++ [⟨#[99, 97, 110, 111, 110]⟩] := if_pos (hd.out.trans h1)
        subst h1
        go_wp2_with (first | (at_builtin; refine Kd.R_append Kd.string (w0 := W0) W0.heap.size rfl (.tmp 18) (.tmp 20) 67 9 (.string ⟨#[]⟩) 16 rfl Tryz.underlying67 info9 rfl (by decide) (by omega) u3 (flagL fl 1) (⟨#[99, 97, 110, 111, 110]⟩ : ByteArray) [.string (⟨#[99, 97, 110, 111, 110]⟩ : ByteArray)] (fun _ => True) (fun _ => False) rfl rfl ?aP (fun _ hk => hk.elim) ?aF ?aO ?aB ?aS ?aL ?_; (case aP => exact rfl); (case aB => exact HB.out); (case aF => exact (fun _ _ => trivial)); (case aO => exact HR.out); (case aS => exact below_size HB.out); (case aL => omega); intro v2 w2 ho hb hg hat))
        go_roundg k
        case measure => omega
        case rel => exact ⟨2, rfl, hk2, ⟨by rw [hfl2]; exact ho⟩, ⟨by rw [hfl2, List.length_append, List.length_singleton]; have := HL.out; omega⟩, ⟨hb⟩⟩
      · have hfl2 : flagL fl 2 = flagL fl 1 := if_neg (by rw [hd.out]; exact h1)
        have h1' : ((d : Int) == 1) = false := by simp; omega
        clear h1
        go_wp2_with (fail)
        go_roundg k
        case measure => omega
        case rel => exact ⟨2, rfl, hk2, ⟨by rw [hfl2]; exact HR.out⟩, ⟨by rw [hfl2]; omega⟩, HB⟩
    · obtain ⟨k, rfl⟩ : ∃ k, gk = k + 1 := ⟨gk - 1, by omega⟩
      have hk2 := Aside0.mk (show 3 ≤ 7 ∧ 7 - 3 ≤ k by omega)
      obtain ⟨d, hd, ba⟩ : ∃ d : Nat, Aside0 (fl / 2 ^ 2 % 2 = d) ∧ bits .and .u32 ((fl : Int) / 4) 1 = (d : Int) := ⟨_, ⟨rfl⟩, by
        have := and1 (fl / 2 ^ 2) (Nat.lt_of_le_of_lt (Nat.div_le_self _ _) hfl)
        rw [show ((fl / 2 ^ 2 : Nat) : Int) = ((fl : Int) / 4) by omega] at this
        exact this⟩
      have hL := HL.out
      have hxx := tix_2
      clear hk hk'
      by_cases h1 : d = 1
      · have hfl2 : flagL fl 3 = flagL fl 2 ++ [⟨#[115, 105, 103, 110, 97, 108, 115]⟩] := if_pos (hd.out.trans h1)
        subst h1
        go_wp2_with (first | (at_builtin; refine Kd.R_append Kd.string (w0 := W0) W0.heap.size rfl (.tmp 18) (.tmp 20) 67 9 (.string ⟨#[]⟩) 16 rfl Tryz.underlying67 info9 rfl (by decide) (by omega) u3 (flagL fl 2) (⟨#[115, 105, 103, 110, 97, 108, 115]⟩ : ByteArray) [.string (⟨#[115, 105, 103, 110, 97, 108, 115]⟩ : ByteArray)] (fun _ => True) (fun _ => False) rfl rfl ?aP (fun _ hk => hk.elim) ?aF ?aO ?aB ?aS ?aL ?_; (case aP => exact rfl); (case aB => exact HB.out); (case aF => exact (fun _ _ => trivial)); (case aO => exact HR.out); (case aS => exact below_size HB.out); (case aL => omega); intro v2 w2 ho hb hg hat))
        go_roundg k
        case measure => omega
        case rel => exact ⟨3, rfl, hk2, ⟨by rw [hfl2]; exact ho⟩, ⟨by rw [hfl2, List.length_append, List.length_singleton]; have := HL.out; omega⟩, ⟨hb⟩⟩
      · have hfl2 : flagL fl 3 = flagL fl 2 := if_neg (by rw [hd.out]; exact h1)
        have h1' : ((d : Int) == 1) = false := by simp; omega
        clear h1
        go_wp2_with (fail)
        go_roundg k
        case measure => omega
        case rel => exact ⟨3, rfl, hk2, ⟨by rw [hfl2]; exact HR.out⟩, ⟨by rw [hfl2]; omega⟩, HB⟩
    · obtain ⟨k, rfl⟩ : ∃ k, gk = k + 1 := ⟨gk - 1, by omega⟩
      have hk2 := Aside0.mk (show 4 ≤ 7 ∧ 7 - 4 ≤ k by omega)
      obtain ⟨d, hd, ba⟩ : ∃ d : Nat, Aside0 (fl / 2 ^ 3 % 2 = d) ∧ bits .and .u32 ((fl : Int) / 8) 1 = (d : Int) := ⟨_, ⟨rfl⟩, by
        have := and1 (fl / 2 ^ 3) (Nat.lt_of_le_of_lt (Nat.div_le_self _ _) hfl)
        rw [show ((fl / 2 ^ 3 : Nat) : Int) = ((fl : Int) / 8) by omega] at this
        exact this⟩
      have hL := HL.out
      have hxx := tix_3
      clear hk hk'
      by_cases h1 : d = 1
      · have hfl2 : flagL fl 4 = flagL fl 3 ++ [⟨#[101, 120, 116, 101, 110, 100]⟩] := if_pos (hd.out.trans h1)
        subst h1
        go_wp2_with (first | (at_builtin; refine Kd.R_append Kd.string (w0 := W0) W0.heap.size rfl (.tmp 18) (.tmp 20) 67 9 (.string ⟨#[]⟩) 16 rfl Tryz.underlying67 info9 rfl (by decide) (by omega) u3 (flagL fl 3) (⟨#[101, 120, 116, 101, 110, 100]⟩ : ByteArray) [.string (⟨#[101, 120, 116, 101, 110, 100]⟩ : ByteArray)] (fun _ => True) (fun _ => False) rfl rfl ?aP (fun _ hk => hk.elim) ?aF ?aO ?aB ?aS ?aL ?_; (case aP => exact rfl); (case aB => exact HB.out); (case aF => exact (fun _ _ => trivial)); (case aO => exact HR.out); (case aS => exact below_size HB.out); (case aL => omega); intro v2 w2 ho hb hg hat))
        go_roundg k
        case measure => omega
        case rel => exact ⟨4, rfl, hk2, ⟨by rw [hfl2]; exact ho⟩, ⟨by rw [hfl2, List.length_append, List.length_singleton]; have := HL.out; omega⟩, ⟨hb⟩⟩
      · have hfl2 : flagL fl 4 = flagL fl 3 := if_neg (by rw [hd.out]; exact h1)
        have h1' : ((d : Int) == 1) = false := by simp; omega
        clear h1
        go_wp2_with (fail)
        go_roundg k
        case measure => omega
        case rel => exact ⟨4, rfl, hk2, ⟨by rw [hfl2]; exact HR.out⟩, ⟨by rw [hfl2]; omega⟩, HB⟩
    · obtain ⟨k, rfl⟩ : ∃ k, gk = k + 1 := ⟨gk - 1, by omega⟩
      have hk2 := Aside0.mk (show 5 ≤ 7 ∧ 7 - 5 ≤ k by omega)
      obtain ⟨d, hd, ba⟩ : ∃ d : Nat, Aside0 (fl / 2 ^ 4 % 2 = d) ∧ bits .and .u32 ((fl : Int) / 16) 1 = (d : Int) := ⟨_, ⟨rfl⟩, by
        have := and1 (fl / 2 ^ 4) (Nat.lt_of_le_of_lt (Nat.div_le_self _ _) hfl)
        rw [show ((fl / 2 ^ 4 : Nat) : Int) = ((fl : Int) / 16) by omega] at this
        exact this⟩
      have hL := HL.out
      have hxx := tix_4
      clear hk hk'
      by_cases h1 : d = 1
      · have hfl2 : flagL fl 5 = flagL fl 4 ++ [⟨#[102, 108, 111, 119]⟩] := if_pos (hd.out.trans h1)
        subst h1
        go_wp2_with (first | (at_builtin; refine Kd.R_append Kd.string (w0 := W0) W0.heap.size rfl (.tmp 18) (.tmp 20) 67 9 (.string ⟨#[]⟩) 16 rfl Tryz.underlying67 info9 rfl (by decide) (by omega) u3 (flagL fl 4) (⟨#[102, 108, 111, 119]⟩ : ByteArray) [.string (⟨#[102, 108, 111, 119]⟩ : ByteArray)] (fun _ => True) (fun _ => False) rfl rfl ?aP (fun _ hk => hk.elim) ?aF ?aO ?aB ?aS ?aL ?_; (case aP => exact rfl); (case aB => exact HB.out); (case aF => exact (fun _ _ => trivial)); (case aO => exact HR.out); (case aS => exact below_size HB.out); (case aL => omega); intro v2 w2 ho hb hg hat))
        go_roundg k
        case measure => omega
        case rel => exact ⟨5, rfl, hk2, ⟨by rw [hfl2]; exact ho⟩, ⟨by rw [hfl2, List.length_append, List.length_singleton]; have := HL.out; omega⟩, ⟨hb⟩⟩
      · have hfl2 : flagL fl 5 = flagL fl 4 := if_neg (by rw [hd.out]; exact h1)
        have h1' : ((d : Int) == 1) = false := by simp; omega
        clear h1
        go_wp2_with (fail)
        go_roundg k
        case measure => omega
        case rel => exact ⟨5, rfl, hk2, ⟨by rw [hfl2]; exact HR.out⟩, ⟨by rw [hfl2]; omega⟩, HB⟩
    · obtain ⟨k, rfl⟩ : ∃ k, gk = k + 1 := ⟨gk - 1, by omega⟩
      have hk2 := Aside0.mk (show 6 ≤ 7 ∧ 7 - 6 ≤ k by omega)
      obtain ⟨d, hd, ba⟩ : ∃ d : Nat, Aside0 (fl / 2 ^ 5 % 2 = d) ∧ bits .and .u32 ((fl : Int) / 32) 1 = (d : Int) := ⟨_, ⟨rfl⟩, by
        have := and1 (fl / 2 ^ 5) (Nat.lt_of_le_of_lt (Nat.div_le_self _ _) hfl)
        rw [show ((fl / 2 ^ 5 : Nat) : Int) = ((fl : Int) / 32) by omega] at this
        exact this⟩
      have hL := HL.out
      have hxx := tix_5
      clear hk hk'
      by_cases h1 : d = 1
      · have hfl2 : flagL fl 6 = flagL fl 5 ++ [⟨#[99, 114, 116, 111, 110, 108]⟩] := if_pos (hd.out.trans h1)
        subst h1
        go_wp2_with (first | (at_builtin; refine Kd.R_append Kd.string (w0 := W0) W0.heap.size rfl (.tmp 18) (.tmp 20) 67 9 (.string ⟨#[]⟩) 16 rfl Tryz.underlying67 info9 rfl (by decide) (by omega) u3 (flagL fl 5) (⟨#[99, 114, 116, 111, 110, 108]⟩ : ByteArray) [.string (⟨#[99, 114, 116, 111, 110, 108]⟩ : ByteArray)] (fun _ => True) (fun _ => False) rfl rfl ?aP (fun _ hk => hk.elim) ?aF ?aO ?aB ?aS ?aL ?_; (case aP => exact rfl); (case aB => exact HB.out); (case aF => exact (fun _ _ => trivial)); (case aO => exact HR.out); (case aS => exact below_size HB.out); (case aL => omega); intro v2 w2 ho hb hg hat))
        go_roundg k
        case measure => omega
        case rel => exact ⟨6, rfl, hk2, ⟨by rw [hfl2]; exact ho⟩, ⟨by rw [hfl2, List.length_append, List.length_singleton]; have := HL.out; omega⟩, ⟨hb⟩⟩
      · have hfl2 : flagL fl 6 = flagL fl 5 := if_neg (by rw [hd.out]; exact h1)
        have h1' : ((d : Int) == 1) = false := by simp; omega
        clear h1
        go_wp2_with (fail)
        go_roundg k
        case measure => omega
        case rel => exact ⟨6, rfl, hk2, ⟨by rw [hfl2]; exact HR.out⟩, ⟨by rw [hfl2]; omega⟩, HB⟩
    · obtain ⟨k, rfl⟩ : ∃ k, gk = k + 1 := ⟨gk - 1, by omega⟩
      have hk2 := Aside0.mk (show 7 ≤ 7 ∧ 7 - 7 ≤ k by omega)
      obtain ⟨d, hd, ba⟩ : ∃ d : Nat, Aside0 (fl / 2 ^ 6 % 2 = d) ∧ bits .and .u32 ((fl : Int) / 64) 1 = (d : Int) := ⟨_, ⟨rfl⟩, by
        have := and1 (fl / 2 ^ 6) (Nat.lt_of_le_of_lt (Nat.div_le_self _ _) hfl)
        rw [show ((fl / 2 ^ 6 : Nat) : Int) = ((fl : Int) / 64) by omega] at this
        exact this⟩
      have hL := HL.out
      have hxx := tix_6
      clear hk hk'
      by_cases h1 : d = 1
      · have hfl2 : flagL fl 7 = flagL fl 6 ++ [⟨#[112, 111, 115, 116]⟩] := if_pos (hd.out.trans h1)
        subst h1
        go_wp2_with (first | (at_builtin; refine Kd.R_append Kd.string (w0 := W0) W0.heap.size rfl (.tmp 18) (.tmp 20) 67 9 (.string ⟨#[]⟩) 16 rfl Tryz.underlying67 info9 rfl (by decide) (by omega) u3 (flagL fl 6) (⟨#[112, 111, 115, 116]⟩ : ByteArray) [.string (⟨#[112, 111, 115, 116]⟩ : ByteArray)] (fun _ => True) (fun _ => False) rfl rfl ?aP (fun _ hk => hk.elim) ?aF ?aO ?aB ?aS ?aL ?_; (case aP => exact rfl); (case aB => exact HB.out); (case aF => exact (fun _ _ => trivial)); (case aO => exact HR.out); (case aS => exact below_size HB.out); (case aL => omega); intro v2 w2 ho hb hg hat))
        go_roundg k
        case measure => omega
        case rel => exact ⟨7, rfl, hk2, ⟨by rw [hfl2]; exact ho⟩, ⟨by rw [hfl2, List.length_append, List.length_singleton]; have := HL.out; omega⟩, ⟨hb⟩⟩
      · have hfl2 : flagL fl 7 = flagL fl 6 := if_neg (by rw [hd.out]; exact h1)
        have h1' : ((d : Int) == 1) = false := by simp; omega
        clear h1
        go_wp2_with (fail)
        go_roundg k
        case measure => omega
        case rel => exact ⟨7, rfl, hk2, ⟨by rw [hfl2]; exact HR.out⟩, ⟨by rw [hfl2]; omega⟩, HB⟩
    · clear hk hk' c0
      have c1 := (blk_cell hblk 1).trans rfl
      have c2 := (blk_cell hblk 2).trans rfl
      have k1 : wr.cell? ⟨w.heap.size, 1, none⟩ = some (.int .u8 mn) := cell_stays c1 HB.out
      have k2 : wr.cell? ⟨w.heap.size, 2, none⟩ = some (.int .u8 tm) := cell_stays c2 HB.out
      have hwW : Below w.heap.size w wr := keepB0 z0 HB.out z0.size
      clear hblk
      obtain ⟨r, hr, hwr, ba⟩ : ∃ r : Nat, Aside0 (fl - fl % 128 = r ∧ r < 4294967296) ∧ IntKind.u64.wrap (r : Int) = (r : Int) ∧ bits .andNot .u32 (fl : Int) 127 = (r : Int) := ⟨_, ⟨⟨rfl, by omega⟩⟩, by rw [IntKind.wrap_u64]; omega, andnot127 fl hfl⟩
      have hS := Aside0.mk (all_small fl hfl)
      by_cases h1 : r = 0
      · subst h1
        have hall : Aside0 (allL fl = flagL fl 7) := ⟨by rw [allL, hr.out.1, restL, if_pos rfl, List.append_nil]⟩
        by_cases h2 : (flagL fl 7).length = 0
        · have hres' : Aside0 (partL fl = [(⟨#[45]⟩ : ByteArray)]) := ⟨by rw [partL, hall.out, if_pos h2]⟩
          obtain ⟨A, cp, rfl, -, -⟩ := Kd.R_reads HR.out
          clear HR
          rw [h2] at *
          clear h2
          have hblk2 := heap_alloc_new wr (.cells #[.string (⟨#[45]⟩ : ByteArray)] 9)
          have hAl := below_alloc (Below.refl wr.heap.size wr) (.cells #[.string (⟨#[45]⟩ : ByteArray)] 9)
          have k1 := cell_stays k1 hAl
          have k2 := cell_stays k2 hAl
          have hwW := keepW hwW hAl
          go_wp2_with (fail)
          generalize wr.alloc (.cells #[.string (⟨#[45]⟩ : ByteArray)] 9) = Wx at *
          have hC : ∀ (j : Nat) x, [(⟨#[45]⟩ : ByteArray)][j]? = some x → Wx.cell? ⟨wr.heap.size, 0 + j, none⟩ = some (.string x) := by
            intro j x hx
            match j, hx with
            | 0, hx => injection hx with hx; subst hx; exact (blk_cell hblk2 0).trans rfl
            | j + 1, hx => simp at hx
          have hg : wr.heap.size < Wx.heap.size := World.block_lt_of_cell? _ _ (hC 0 _ rfl)
          have hn : [(⟨#[45]⟩ : ByteArray)].length = 1 := rfl
          have hcp : 1 ≤ 1 := Nat.le_refl _
          have hs : Small [(⟨#[45]⟩ : ByteArray)] := ⟨by simp, by intro x hx; rw [List.mem_singleton.mp hx]; decide⟩
          have hres := hres'.out
          clear hblk2
          have hd0 := below_drew1 (Below.refl Wx.heap.size Wx)
          have kd1 : Wx.drew.cell? ⟨w.heap.size, 1, none⟩ = some (.int .u8 mn) := k1
          have kd2 : Wx.drew.cell? ⟨w.heap.size, 2, none⟩ = some (.int .u8 tm) := k2
          have hJ := Aside0.mk (join_ok [(⟨#[45]⟩ : ByteArray)] wr.heap.size 1 1 Wx hn hcp hC hg hs)
          have hI1 := Aside0.mk (fun w' (hb : Below Wx.heap.size Wx w') => itoa_ok mn hmn HT (keepW hwW hb))
          have hJ1 := Aside0.mk (fun w' (hb : Below Wx.heap.size Wx w') => itoa_okw mn hmn HT (keepW hwW hb))
          have hJ2 := Aside0.mk (fun w' (hb : Below Wx.heap.size Wx w') => itoa_okw tm htm HT (keepW hwW hb))
          have hI2 := Aside0.mk (fun w' (hb : Below Wx.heap.size Wx w') => itoa_ok tm htm HT (keepW hwW hb))
          have hq1 : (joinV [(⟨#[45]⟩ : ByteArray)]).data.toList.length ≤ 1000 := small_join hs 43
          have hq := Aside0.mk (fun w' => words_ok (joinV [(⟨#[45]⟩ : ByteArray)]) (itoaV mn) (itoaV tm) hq1 (itoaV_len mn hmn) (itoaV_len tm htm) w')
          have hfin := Aside0.mk (show wordsV (joinV [(⟨#[45]⟩ : ByteArray)]) (itoaV mn) (itoaV tm) = textV fl mn tm by rw [textV, hres])
          have hwW' := Aside0.mk hwW
          clear hq1 hn hC hs hres hwW
          go_region_held3 (fun w' => w'.cell? ⟨w.heap.size, 1, none⟩ = some (.int .u8 mn) ∧ w'.cell? ⟨w.heap.size, 2, none⟩ = some (.int .u8 tm) ∧ Below Wx.heap.size Wx w') (refine ⟨?_, ?_, ?_⟩ <;> first | assumption | exact cell_stays k1 (by repeat (first | assumption | exact Below.refl _ _ | refine keepW ?_ (below_alloc (Below.refl _ _) _) | refine keepW ?_ (by assumption))) | exact cell_stays k2 (by repeat (first | assumption | exact Below.refl _ _ | refine keepW ?_ (below_alloc (Below.refl _ _) _) | refine keepW ?_ (by assumption))) | exact (by repeat (first | assumption | exact Below.refl _ _ | refine keepW ?_ (below_alloc (Below.refl _ _) _) | refine keepW ?_ (by assumption))) | fail)
            (first | (go_at_call 44; refine (hJ.out _ (by repeat (first | assumption | exact Below.refl _ _ | refine keepW ?_ (below_alloc (Below.refl _ _) _) | refine keepW ?_ (by assumption)))).mono ?_; rintro e w' ⟨rfl, hb⟩) | (go_at_call 46; refine (hJ1.out _ (by repeat (first | assumption | exact Below.refl _ _ | refine keepW ?_ (below_alloc (Below.refl _ _) _) | refine keepW ?_ (by assumption)))).mono ?_; rintro e w' ⟨rfl, hb⟩) | (go_at_call 46; refine (hJ2.out _ (by repeat (first | assumption | exact Below.refl _ _ | refine keepW ?_ (below_alloc (Below.refl _ _) _) | refine keepW ?_ (by assumption)))).mono ?_; rintro e w' ⟨rfl, hb⟩) | (go_at_call 46; refine (hI1.out _ (by repeat (first | assumption | exact Below.refl _ _ | refine keepW ?_ (below_alloc (Below.refl _ _) _) | refine keepW ?_ (by assumption)))).mono ?_; rintro e w' ⟨rfl, hb⟩) | (go_at_call 46; refine (hI2.out _ (by repeat (first | assumption | exact Below.refl _ _ | refine keepW ?_ (below_alloc (Below.refl _ _) _) | refine keepW ?_ (by assumption)))).mono ?_; rintro e w' ⟨rfl, hb⟩) | (go_at_call 62; refine (hq.out _).mono ?_; rintro e w' ⟨rfl, hb⟩))
          go_wp2_with (fail)
          go_ret
          exact ⟨congrArg (fun s => Ending.returned (Value.string s)) hfin.out, keepW hwW'.out (by repeat (first | assumption | exact Below.refl _ _ | refine keepW ?_ (below_alloc (Below.refl _ _) _) | refine keepW ?_ (by assumption)))⟩
        · have hres : partL fl = flagL fl 7 := by rw [partL, hall.out, if_neg h2]
          obtain ⟨g, cp, rfl, -, hg, -⟩ := Kd.R_form HR.out (by omega)
          obtain ⟨-, hcp, hC⟩ := Kd.R_reads' HR.out
          have hCC := cells_of hC rfl
          clear hC
          have hs : Small (flagL fl 7) := by rw [← hall.out]; exact hS.out
          clear HR HL
          generalize hn : (flagL fl 7).length = n at *
          have h2' : ((n : Int) == 0) = false := by simp; omega
          have hA := Aside0.mk (And.intro hn (And.intro hCC (And.intro hs hres)))
          clear h2 hn hCC hs hres
          go_wp2_with (fail)
          obtain ⟨hn, hC, hs, hres⟩ := hA.out
          have hd0 := below_drew1 (Below.refl wr.heap.size wr)
          have kd1 : wr.drew.cell? ⟨w.heap.size, 1, none⟩ = some (.int .u8 mn) := k1
          have kd2 : wr.drew.cell? ⟨w.heap.size, 2, none⟩ = some (.int .u8 tm) := k2
          have hJ := Aside0.mk (join_ok (flagL fl 7) g cp n wr hn hcp hC hg hs)
          have hI1 := Aside0.mk (fun w' (hb : Below wr.heap.size wr w') => itoa_ok mn hmn HT (keepW hwW hb))
          have hJ1 := Aside0.mk (fun w' (hb : Below wr.heap.size wr w') => itoa_okw mn hmn HT (keepW hwW hb))
          have hJ2 := Aside0.mk (fun w' (hb : Below wr.heap.size wr w') => itoa_okw tm htm HT (keepW hwW hb))
          have hI2 := Aside0.mk (fun w' (hb : Below wr.heap.size wr w') => itoa_ok tm htm HT (keepW hwW hb))
          have hq1 : (joinV (flagL fl 7)).data.toList.length ≤ 1000 := small_join hs 43
          have hq := Aside0.mk (fun w' => words_ok (joinV (flagL fl 7)) (itoaV mn) (itoaV tm) hq1 (itoaV_len mn hmn) (itoaV_len tm htm) w')
          have hfin := Aside0.mk (show wordsV (joinV (flagL fl 7)) (itoaV mn) (itoaV tm) = textV fl mn tm by rw [textV, hres])
          have hwW' := Aside0.mk hwW
          clear hq1 hn hC hs hres hwW
          go_region_held3 (fun w' => w'.cell? ⟨w.heap.size, 1, none⟩ = some (.int .u8 mn) ∧ w'.cell? ⟨w.heap.size, 2, none⟩ = some (.int .u8 tm) ∧ Below wr.heap.size wr w') (refine ⟨?_, ?_, ?_⟩ <;> first | assumption | exact cell_stays k1 (by repeat (first | assumption | exact Below.refl _ _ | refine keepW ?_ (below_alloc (Below.refl _ _) _) | refine keepW ?_ (by assumption))) | exact cell_stays k2 (by repeat (first | assumption | exact Below.refl _ _ | refine keepW ?_ (below_alloc (Below.refl _ _) _) | refine keepW ?_ (by assumption))) | exact (by repeat (first | assumption | exact Below.refl _ _ | refine keepW ?_ (below_alloc (Below.refl _ _) _) | refine keepW ?_ (by assumption))) | fail)
            (first | (go_at_call 44; refine (hJ.out _ (by repeat (first | assumption | exact Below.refl _ _ | refine keepW ?_ (below_alloc (Below.refl _ _) _) | refine keepW ?_ (by assumption)))).mono ?_; rintro e w' ⟨rfl, hb⟩) | (go_at_call 46; refine (hJ1.out _ (by repeat (first | assumption | exact Below.refl _ _ | refine keepW ?_ (below_alloc (Below.refl _ _) _) | refine keepW ?_ (by assumption)))).mono ?_; rintro e w' ⟨rfl, hb⟩) | (go_at_call 46; refine (hJ2.out _ (by repeat (first | assumption | exact Below.refl _ _ | refine keepW ?_ (below_alloc (Below.refl _ _) _) | refine keepW ?_ (by assumption)))).mono ?_; rintro e w' ⟨rfl, hb⟩) | (go_at_call 46; refine (hI1.out _ (by repeat (first | assumption | exact Below.refl _ _ | refine keepW ?_ (below_alloc (Below.refl _ _) _) | refine keepW ?_ (by assumption)))).mono ?_; rintro e w' ⟨rfl, hb⟩) | (go_at_call 46; refine (hI2.out _ (by repeat (first | assumption | exact Below.refl _ _ | refine keepW ?_ (below_alloc (Below.refl _ _) _) | refine keepW ?_ (by assumption)))).mono ?_; rintro e w' ⟨rfl, hb⟩) | (go_at_call 62; refine (hq.out _).mono ?_; rintro e w' ⟨rfl, hb⟩))
          go_wp2_with (fail)
          go_ret
          exact ⟨congrArg (fun s => Ending.returned (Value.string s)) hfin.out, keepW hwW'.out (by repeat (first | assumption | exact Below.refl _ _ | refine keepW ?_ (below_alloc (Below.refl _ _) _) | refine keepW ?_ (by assumption)))⟩
      · have h1' : ((r : Int) != 0) = true := by simp; omega
        have hr0 := Aside0.mk h1
        clear h1
        go_wp2_with (fail)
        refine (fmt16 r hr.out.2 wr ((HT.below hwW).tz)).mono ?_
        rintro e w1 ⟨rfl, hb1⟩
        have hXX := Aside0.mk (hex_app (digs 16 r))
        have k5 : (9223372036854775807 < 1 + (⟨(digs 16 r).toArray⟩ : ByteArray).size) = False := eq_false (by
          have h8 := digs16_len 8 r (by omega) (by have := hr.out.2; omega)
          show ¬ (_ < 1 + (digs 16 r).toArray.size)
          rw [List.size_toArray]; omega)
        generalize (⟨(digs 16 r).toArray⟩ : ByteArray) = D at *
        have HR1 := Aside0.mk (R_stay HR.out hb1)
        have HB1 := Aside0.mk (HB.out.trans (hb1.mono HB.out.size))
        have hL := HL.out
        go_wp2_with (first | (at_builtin; refine Kd.R_append Kd.string (w0 := W0) W0.heap.size rfl (.tmp 28) (.tmp 33) 67 9 (.string ⟨#[]⟩) 16 rfl Tryz.underlying67 info9 rfl (by decide) (by omega) u3 (flagL fl 7) ((⟨#[120]⟩ : ByteArray) ++ D) [.string ((⟨#[120]⟩ : ByteArray) ++ D)] (fun _ => True) (fun _ => False) rfl rfl ?aP (fun _ hk => hk.elim) ?aF ?aO ?aB ?aS ?aL ?_; (case aP => exact rfl); (case aB => exact HB1.out); (case aF => exact (fun _ _ => trivial)); (case aO => exact HR1.out); (case aS => exact below_size HB1.out); (case aL => omega); intro v2 w2 ho hb hg hat; clear k1 k2; have k1 : w2.cell? ⟨w.heap.size, 1, none⟩ = some (.int .u8 mn) := cell_stays0 c1 hb; have k2 : w2.cell? ⟨w.heap.size, 2, none⟩ = some (.int .u8 tm) := cell_stays0 c2 hb; have hp := post_app ho; generalize (⟨#[120]⟩ : ByteArray) ++ D = X at *; obtain ⟨g, cp, n, rfl, hn, h2', hA⟩ := hp; clear ho hg hat))
        obtain ⟨hcp, hg2, hC⟩ := hA.out
        have hn := hn.out
        have hwW : Below w.heap.size w w2 := keepB0 z0 hb z0.size
        have hs : Small (flagL fl 7 ++ [X]) := by have := hS.out; rw [allL, hr.out.1, restL, if_neg hr0.out, ← hXX.out] at this; exact this
        have hres : partL fl = flagL fl 7 ++ [X] := by rw [partL, allL, hr.out.1, restL, if_neg hr0.out, if_neg (by simp), ← hXX.out]
        have hg := hg2
        clear hXX
        have hd0 := below_drew1 (Below.refl w2.heap.size w2)
        have kd1 : w2.drew.cell? ⟨w.heap.size, 1, none⟩ = some (.int .u8 mn) := k1
        have kd2 : w2.drew.cell? ⟨w.heap.size, 2, none⟩ = some (.int .u8 tm) := k2
        have hJ := Aside0.mk (join_ok (flagL fl 7 ++ [X]) g cp n w2 hn hcp hC hg hs)
        have hI1 := Aside0.mk (fun w' (hb : Below w2.heap.size w2 w') => itoa_ok mn hmn HT (keepW hwW hb))
        have hJ1 := Aside0.mk (fun w' (hb : Below w2.heap.size w2 w') => itoa_okw mn hmn HT (keepW hwW hb))
        have hJ2 := Aside0.mk (fun w' (hb : Below w2.heap.size w2 w') => itoa_okw tm htm HT (keepW hwW hb))
        have hI2 := Aside0.mk (fun w' (hb : Below w2.heap.size w2 w') => itoa_ok tm htm HT (keepW hwW hb))
        have hq1 : (joinV (flagL fl 7 ++ [X])).data.toList.length ≤ 1000 := small_join hs 43
        have hq := Aside0.mk (fun w' => words_ok (joinV (flagL fl 7 ++ [X])) (itoaV mn) (itoaV tm) hq1 (itoaV_len mn hmn) (itoaV_len tm htm) w')
        have hfin := Aside0.mk (show wordsV (joinV (flagL fl 7 ++ [X])) (itoaV mn) (itoaV tm) = textV fl mn tm by rw [textV, hres])
        have hwW' := Aside0.mk hwW
        clear hq1 hn hC hs hres hwW
        go_region_held3 (fun w' => w'.cell? ⟨w.heap.size, 1, none⟩ = some (.int .u8 mn) ∧ w'.cell? ⟨w.heap.size, 2, none⟩ = some (.int .u8 tm) ∧ Below w2.heap.size w2 w') (refine ⟨?_, ?_, ?_⟩ <;> first | assumption | exact cell_stays k1 (by repeat (first | assumption | exact Below.refl _ _ | refine keepW ?_ (below_alloc (Below.refl _ _) _) | refine keepW ?_ (by assumption))) | exact cell_stays k2 (by repeat (first | assumption | exact Below.refl _ _ | refine keepW ?_ (below_alloc (Below.refl _ _) _) | refine keepW ?_ (by assumption))) | exact (by repeat (first | assumption | exact Below.refl _ _ | refine keepW ?_ (below_alloc (Below.refl _ _) _) | refine keepW ?_ (by assumption))) | fail)
          (first | (go_at_call 44; refine (hJ.out _ (by repeat (first | assumption | exact Below.refl _ _ | refine keepW ?_ (below_alloc (Below.refl _ _) _) | refine keepW ?_ (by assumption)))).mono ?_; rintro e w' ⟨rfl, hb⟩) | (go_at_call 46; refine (hJ1.out _ (by repeat (first | assumption | exact Below.refl _ _ | refine keepW ?_ (below_alloc (Below.refl _ _) _) | refine keepW ?_ (by assumption)))).mono ?_; rintro e w' ⟨rfl, hb⟩) | (go_at_call 46; refine (hJ2.out _ (by repeat (first | assumption | exact Below.refl _ _ | refine keepW ?_ (below_alloc (Below.refl _ _) _) | refine keepW ?_ (by assumption)))).mono ?_; rintro e w' ⟨rfl, hb⟩) | (go_at_call 46; refine (hI1.out _ (by repeat (first | assumption | exact Below.refl _ _ | refine keepW ?_ (below_alloc (Below.refl _ _) _) | refine keepW ?_ (by assumption)))).mono ?_; rintro e w' ⟨rfl, hb⟩) | (go_at_call 46; refine (hI2.out _ (by repeat (first | assumption | exact Below.refl _ _ | refine keepW ?_ (below_alloc (Below.refl _ _) _) | refine keepW ?_ (by assumption)))).mono ?_; rintro e w' ⟨rfl, hb⟩) | (go_at_call 62; refine (hq.out _).mono ?_; rintro e w' ⟨rfl, hb⟩))
        go_wp2_with (fail)
        go_ret
        exact ⟨congrArg (fun s => Ending.returned (Value.string s)) hfin.out, keepW hwW'.out (by repeat (first | assumption | exact Below.refl _ _ | refine keepW ?_ (below_alloc (Below.refl _ _) _) | refine keepW ?_ (by assumption)))⟩


end Go.Proofs.YtbiogabekhegaaaGreatDoor.Hand
