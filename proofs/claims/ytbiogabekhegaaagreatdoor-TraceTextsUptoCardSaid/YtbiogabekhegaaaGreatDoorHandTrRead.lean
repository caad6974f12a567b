/- trace.Read. -/
import Derived.Test.YtbiogabekhegaaaGreatDoorHandEff
namespace Go.Proofs.YtbiogabekhegaaaGreatDoor.Hand
open Go.RowKit Go.Proofs.YtbiogabekhegaaaGreatDoorW.PrintWords Go.Proofs.YtbiogabekhegaaaGreatDoorW.PrintLast
set_option linter.unusedVariables false
set_option linter.unusedSimpArgs false
def kWords : List ByteArray := [⟨#[103, 111, 116]⟩, ⟨#[119, 97, 115]⟩, ⟨#[119, 114, 111, 116, 101]⟩, ⟨#[114, 101, 97, 100]⟩, ⟨#[115, 105, 103, 110, 97, 108]⟩, ⟨#[101, 110, 100]⟩, ⟨#[104, 105, 115, 116, 111, 114, 121]⟩]
def kWord (k : Nat) : ByteArray := kWords.getD k ByteArray.empty
def kWent (k : Nat) : Bool := decide (k < 4)
def kMore (k : Nat) : Nat := [3, 3, 2, 1, 1, 0, 0].getD k 0
def kRd (b k : Nat) : Value := [Value.func (.func 42) #[] #[], .func (.func 42) #[] #[], .func (.func 51) #[] #[.pointer (some ⟨b + 1, 0, none⟩)], .func (.func 47) #[] #[], .func (.func 47) #[] #[], .func (.func 54) #[] #[], .func (.func 54) #[] #[]].getD k .nilFunc
def kWr (b k : Nat) : Value := [Value.func (.func 40) #[] #[], .func (.func 40) #[] #[], .func (.func 49) #[] #[.pointer (some ⟨b, 0, none⟩)], .func (.func 45) #[] #[], .func (.func 45) #[] #[], .func (.func 53) #[] #[], .func (.func 53) #[] #[]].getD k .nilFunc
def kCells (b k : Nat) : Array Value := #[.string (kWord k), .bool (kWent k), .int .i64 (kMore k : Nat), kWr b k, kRd b k]
set_option maxRecDepth 100000 in
theorem kind_at (b k : Nat) (hk : k < 7) (W : World) : (Instr.index 59 (.agg (kindsA b)) (.int .i64 k)).run Tryz.prog W = .ok (.agg (kCells b k)) W := by
  obtain rfl | rfl | rfl | rfl | rfl | rfl | rfl : k = 0 ∨ k = 1 ∨ k = 2 ∨ k = 3 ∨ k = 4 ∨ k = 5 ∨ k = 6 := by omega
  all_goals rfl
set_option maxRecDepth 100000 in
theorem kCells_one (b k : Nat) (hk : k < 7) : (kCells b k).all (·.oneCell') = true := by
  obtain rfl | rfl | rfl | rfl | rfl | rfl | rfl : k = 0 ∨ k = 1 ∨ k = 2 ∨ k = 3 ∨ k = 4 ∨ k = 5 ∨ k = 6 := by omega
  all_goals kernel_rfl
theorem effC_one (x : Eff) (v : Value) (hv : v.oneCell' = true) : (effC x v).all (·.oneCell') = true := by
  cases v <;> first | (cases hv; done) | kernel_rfl
theorem blk7 {W : World} {g : Nat} {t : TypeId} {a b c d e f h : Value} (H : W.heap[g]? = some (.cells #[a, b, c, d, e, f, h] t (0, 0))) (a' b' c' d' e' f' h' : Value) :
    (((((((W.setCell ⟨g, 0, none⟩ a').setCell ⟨g, 1, none⟩ b').setCell ⟨g, 2, none⟩ c').setCell ⟨g, 3, none⟩ d').setCell ⟨g, 4, none⟩ e').setCell ⟨g, 5, none⟩ f').setCell ⟨g, 6, none⟩ h').heap[g]? = some (.cells #[a', b', c', d', e', f', h'] t (0, 0)) :=
  blk_put (cs := #[a', b', c', d', e', f', h]) (blk_put (cs := #[a', b', c', d', e', f, h]) (blk_put (cs := #[a', b', c', d', e, f, h]) (blk_put (cs := #[a', b', c', d, e, f, h]) (blk_put (cs := #[a', b', c, d, e, f, h]) (blk_put (cs := #[a', b, c, d, e, f, h]) (blk_put (cs := #[a, b, c, d, e, f, h]) H 0 a' rfl) 1 b' rfl) 2 c' rfl) 3 d' rfl) 4 e' rfl) 5 f' rfl) 6 h' rfl
theorem set7_below {B : Nat} {w W : World} {g : Nat} (H : Below B w W) (hg : B ≤ g) (a b c d e f h : Value) :
    Below B w (((((((W.setCell ⟨g, 0, none⟩ a).setCell ⟨g, 1, none⟩ b).setCell ⟨g, 2, none⟩ c).setCell ⟨g, 3, none⟩ d).setCell ⟨g, 4, none⟩ e).setCell ⟨g, 5, none⟩ f).setCell ⟨g, 6, none⟩ h) :=
  set_below (set_below (set_below (set_below (set_below (set_below (set_below H hg 0 a) hg 1 b) hg 2 c) hg 3 d) hg 4 e) hg 5 f) hg 6 h
/-- The seven cells as a walk asks them. -/
theorem eff_cells {W : World} {g : Nat} {x : Eff} {v : Value} (H : W.heap[g]? = some (.cells (effC x v) 27 (0, 0))) :
    (W.cell? ⟨g, 0, none⟩ = some (.int .i64 x.k) ∧ W.cell? ⟨g, 1, none⟩ = some (.int .u32 x.fl) ∧ W.cell? ⟨g, 2, none⟩ = some (.int .u8 x.mn) ∧ W.cell? ⟨g, 3, none⟩ = some (.int .u8 x.tm) ∧ W.cell? ⟨g, 4, none⟩ = some v ∧ W.cell? ⟨g, 5, none⟩ = some (.int .i64 x.n) ∧ W.cell? ⟨g, 6, none⟩ = some (.bool x.ok)) ∧
    (W.frozen? ⟨g, 0, none⟩ = false ∧ W.frozen? ⟨g, 1, none⟩ = false ∧ W.frozen? ⟨g, 2, none⟩ = false ∧ W.frozen? ⟨g, 3, none⟩ = false ∧ W.frozen? ⟨g, 4, none⟩ = false ∧ W.frozen? ⟨g, 5, none⟩ = false ∧ W.frozen? ⟨g, 6, none⟩ = false) :=
  ⟨⟨blk_cell H 0, blk_cell H 1, blk_cell H 2, blk_cell H 3, blk_cell H 4, blk_cell H 5, blk_cell H 6⟩, blk_frozen H 0, blk_frozen H 1, blk_frozen H 2, blk_frozen H 3, blk_frozen H 4, blk_frozen H 5, blk_frozen H 6⟩
theorem kWord_inj : ∀ j k : Fin 7, kWord j.val = kWord k.val → j = k := by decide +kernel
theorem kWord_inj' {j k : Nat} (hj : j < 7) (hk : k < 7) (h : kWord j = kWord k) : j = k := by
  have := kWord_inj ⟨j, hj⟩ ⟨k, hk⟩ h
  exact congrArg Fin.val this
def okW : ByteArray := ⟨#[111, 107]⟩
def failW : ByteArray := ⟨#[102, 97, 105, 108]⟩
/-- What a kind's reader answers to the words behind, and what it makes of the effect. -/
def rdK (k : Nat) (r : List ByteArray) (x : Eff) : Bool × Eff :=
  if k < 2 then (((readV ⟨(Lib.join (r.map (·.data.toList)) [32]).toArray⟩).2.2.2 == 0), { x with fl := (readV ⟨(Lib.join (r.map (·.data.toList)) [32]).toArray⟩).1, mn := (readV ⟨(Lib.join (r.map (·.data.toList)) [32]).toArray⟩).2.1, tm := (readV ⟨(Lib.join (r.map (·.data.toList)) [32]).toArray⟩).2.2.1 })
  else if k = 2 then (toldOk (r.getD 0 ByteArray.empty).data.toList && numOk (r.getD 1 ByteArray.empty), { x with d := toldL (r.getD 0 ByteArray.empty).data.toList, n := if toldOk (r.getD 0 ByteArray.empty).data.toList = true then atoiV (r.getD 1 ByteArray.empty).data.toList else x.n })
  else if k < 5 then (numOk (r.getD 0 ByteArray.empty), { x with n := atoiV (r.getD 0 ByteArray.empty).data.toList })
  else (true, x)
def finK (k : Nat) (r : List ByteArray) (x : Eff) : Option Eff := if r.length = kMore k ∧ (rdK k r x).1 = true then some (rdK k r x).2 else none
def bodyK (k : Nat) (r : List ByteArray) : Option Eff :=
  if kWent k = true then
    match r with
    | [] => none
    | r0 :: r' => if r0 = okW ∨ r0 = failW then finK k r' { Eff.zero with k := k, ok := decide (r0 = okW) } else none
  else finK k r { Eff.zero with k := k }
def kindOf (w0 : ByteArray) : Option Nat := (List.range 7).find? (fun k => kWord k = w0)
def readW (w0 : ByteArray) (r : List ByteArray) : Option Eff := (kindOf w0).bind fun k => bodyK k r
theorem kindOf_at (k : Nat) (hk : k < 7) : kindOf (kWord k) = some k := by
  obtain rfl | rfl | rfl | rfl | rfl | rfl | rfl : k = 0 ∨ k = 1 ∨ k = 2 ∨ k = 3 ∨ k = 4 ∨ k = 5 ∨ k = 6 := by omega
  all_goals decide +kernel
theorem kindOf_none (w0 : ByteArray) (h : ∀ j, j < 7 → w0 ≠ kWord j) : kindOf w0 = none := by
  unfold kindOf
  rw [List.find?_eq_none]
  intro j hj
  have := h j (List.mem_range.1 hj)
  simp only [decide_eq_true_eq]
  exact fun e => this e.symm
/-- What is known of the words so far. -/
def SoFar (w0 : ByteArray) (r : List ByteArray) (k : Nat) : Prop := (∀ j, j < k → w0 ≠ kWord j) ∨ (readW w0 r = none ∧ ∃ j, j < k ∧ w0 = kWord j)
theorem SoFar.start (w0 : ByteArray) (r : List ByteArray) : SoFar w0 r 0 := .inl fun j hj => absurd hj (Nat.not_lt_zero _)
theorem SoFar.next {w0 : ByteArray} {r : List ByteArray} {k : Nat} (h : SoFar w0 r k) (hw : w0 ≠ kWord k) : SoFar w0 r (k + 1) := by
  rcases h with h | ⟨h1, j, h2, h3⟩
  · refine .inl fun j hj => ?_
    by_cases e : j = k
    · subst e; exact hw
    · exact h j (by omega)
  · exact .inr ⟨h1, j, by omega, h3⟩
theorem SoFar.fell {w0 : ByteArray} {r : List ByteArray} {k : Nat} (hw : w0 = kWord k) (hr : readW w0 r = none) : SoFar w0 r (k + 1) := .inr ⟨hr, k, by omega, hw⟩
theorem SoFar.done {w0 : ByteArray} {r : List ByteArray} (h : SoFar w0 r 7) : readW w0 r = none := by
  rcases h with h | ⟨h1, _⟩
  · unfold readW
    rw [kindOf_none w0 h]
    rfl
  · exact h1
theorem readW_at {k : Nat} (hk : k < 7) (r : List ByteArray) : readW (kWord k) r = bodyK k r := by
  unfold readW
  rw [kindOf_at k hk]
  rfl
/-- The blocks while the loop runs: the result's (rb), the words' (rb + 1), the two captured (q, q + 1). -/
structure RdL (w wr : World) (q : Nat) (ws : List ByteArray) : Prop where
  r : wr.heap[w.heap.size]? = some (.cells (effC Eff.zero (.slice none 0 0)) 27 (0, 0))
  s : wr.heap[w.heap.size + 1]? = some (.cells (ws.map Value.string).toArray 9 (0, 0))
  q1 : wr.heap[q + 1]? = some (.cells #[.func (.func 47) #[] #[]] 56 (0, 0))
  qlt : w.heap.size + 1 < q
  b : Below w.heap.size w wr
theorem RdL.below {w wr W : World} {q : Nat} {ws : List ByteArray} (h : RdL w wr q ws) (hb : Below wr.heap.size wr W) : RdL w W q ws :=
  ⟨(hb.block _ (blk_lt h.r)).trans h.r, (hb.block _ (blk_lt h.s)).trans h.s, (hb.block _ (blk_lt h.q1)).trans h.q1, h.qlt, h.b.trans (hb.mono h.b.size)⟩
/-- A block that is none of these has been written. -/
theorem RdL.grown {w wr W : World} {q : Nat} {ws : List ByteArray} (h : RdL w wr q ws) {eb : Nat} (hg : wr.grownBy W (some eb)) (he : w.heap.size + 1 < eb ∧ q + 1 < eb ∧ w.heap.size ≤ eb) : RdL w W q ws :=
  ⟨(hg.block _ (blk_lt h.r) (fun e => by have := Option.some.inj e; omega)).trans h.r, (hg.block _ (blk_lt h.s) (fun e => by have := Option.some.inj e; omega)).trans h.s, (hg.block _ (blk_lt h.q1) (fun e => by have := Option.some.inj e; omega)).trans h.q1, h.qlt, h.b.grown hg h.b.size (fun k e => by have := Option.some.inj e; omega)⟩
theorem map_cell {r : List ByteArray} {j : Nat} {y : ByteArray} (h : r[j]? = some y) : (r.map Value.string)[j]? = some (.string y) := by rw [List.getElem?_map, h]; rfl
theorem body_none {k : Nat} (h : kWent k = true) : bodyK k [] = none := by unfold bodyK; rw [if_pos h]
theorem body_bad {k : Nat} {r0 : ByteArray} (r : List ByteArray) (h : kWent k = true) (h1 : r0 ≠ okW) (h2 : r0 ≠ failW) : bodyK k (r0 :: r) = none := by
  unfold bodyK
  rw [if_pos h]
  exact if_neg (fun e => e.elim h1 h2)
theorem body_went {k : Nat} {r0 : ByteArray} (r : List ByteArray) {b : Bool} (h : kWent k = true) (h1 : r0 = okW ∨ r0 = failW) (h2 : decide (r0 = okW) = b) : bodyK k (r0 :: r) = finK k r ⟨k, 0, 0, 0, [], 0, b⟩ := by
  unfold bodyK
  rw [if_pos h]
  show (if r0 = okW ∨ r0 = failW then finK k r { Eff.zero with k := k, ok := decide (r0 = okW) } else none) = _
  rw [if_pos h1, h2]
  rfl
theorem body_bare {k : Nat} (r : List ByteArray) (h : kWent k = false) : bodyK k r = finK k r ⟨k, 0, 0, 0, [], 0, false⟩ := by
  unfold bodyK
  rw [if_neg (by rw [h]; simp)]
  rfl
theorem fin_len {k : Nat} {r : List ByteArray} {x : Eff} (h : r.length ≠ kMore k) : finK k r x = none := if_neg (fun e => h e.1)
theorem fin_bad {k : Nat} {r : List ByteArray} {x : Eff} (h : (rdK k r x).1 = false) : finK k r x = none := if_neg (fun e => by rw [h] at e; exact absurd e.2 (by decide))
theorem fin_ok {k : Nat} {r : List ByteArray} {x X : Eff} (h1 : r.length = kMore k) (h2 : (rdK k r x).1 = true) (h3 : (rdK k r x).2 = X) : finK k r x = some X := (if_pos ⟨h1, h2⟩).trans (congrArg some h3)
theorem kWent_lt {k : Nat} (h : kWent k = true) (hk : k < 7) : k < 4 := of_decide_eq_true h
theorem kWent_ge {k : Nat} (h : kWent k = false) : 4 ≤ k := by have := of_decide_eq_false h; omega
theorem kMore_pos {k : Nat} (h : kWent k = true) (hk : k < 7) : kMore k ≠ 0 := by
  have := kWent_lt h hk
  obtain rfl | rfl | rfl | rfl : k = 0 ∨ k = 1 ∨ k = 2 ∨ k = 3 := by omega
  all_goals decide
/-- A row made since stays where an elder block is written. -/
theorem set7_R {w W : World} {v : Value} {L : List Int} (H : Kd.R (Kd.int .u8) 5 W (w.heap.size + 1) (fun _ => True) v L) (a b c d e f h : Value) :
    Kd.R (Kd.int .u8) 5 (((((((W.setCell ⟨w.heap.size, 0, none⟩ a).setCell ⟨w.heap.size, 1, none⟩ b).setCell ⟨w.heap.size, 2, none⟩ c).setCell ⟨w.heap.size, 3, none⟩ d).setCell ⟨w.heap.size, 4, none⟩ e).setCell ⟨w.heap.size, 5, none⟩ f).setCell ⟨w.heap.size, 6, none⟩ h) w.heap.size (fun _ => True) v L := by
  have H0 : Kd.R (Kd.int .u8) 5 W (w.heap.size + 1) (fun k => w.heap.size + 1 ≤ k) v L := Kd.R_mono (Kd.R_bound H) (fun k hk => hk.2.1)
  have step : ∀ {W' : World} (i : Nat) (u : Value), Kd.R (Kd.int .u8) 5 W' (w.heap.size + 1) (fun k => w.heap.size + 1 ≤ k) v L → Kd.R (Kd.int .u8) 5 (W'.setCell ⟨w.heap.size, i, none⟩ u) (w.heap.size + 1) (fun k => w.heap.size + 1 ≤ k) v L :=
    fun i u hh => Kd.R_far (p := ⟨w.heap.size, i, none⟩) hh (fun k hk => by show k ≠ w.heap.size; omega) u
  exact Kd.R_mono (Kd.R_lower (step 6 h (step 5 f (step 4 e (step 3 d (step 2 c (step 1 b (step 0 a H0))))))) (by omega)) (fun _ _ => trivial)
def readR (w0 : ByteArray) (r : List ByteArray) : Eff × Int := match readW w0 r with | some x => (x, 0) | none => (Eff.zero, 8)
def RdPost (w : World) (x : Eff) (er : Int) (e : Ending) (w' : World) : Prop := ∃ v, e = .returned (.tuple #[.agg (effC x v), .int .i64 er]) ∧ Kd.R (Kd.int .u8) 5 w' w.heap.size (fun _ => True) v x.d ∧ Below w.heap.size w w'
theorem kRd_cases (q k : Nat) (hk : k < 7) (fr : Value) (h : kRd q k = fr) : (k = 0 ∧ fr = .func (.func 42) #[] #[]) ∨ (k = 1 ∧ fr = .func (.func 42) #[] #[]) ∨ (k = 2 ∧ fr = .func (.func 51) #[] #[.pointer (some ⟨q + 1, 0, none⟩)]) ∨ (k = 3 ∧ fr = .func (.func 47) #[] #[]) ∨ (k = 4 ∧ fr = .func (.func 47) #[] #[]) ∨ (k = 5 ∧ fr = .func (.func 54) #[] #[]) ∨ (k = 6 ∧ fr = .func (.func 54) #[] #[]) := by
  subst h
  obtain rfl | rfl | rfl | rfl | rfl | rfl | rfl : k = 0 ∨ k = 1 ∨ k = 2 ∨ k = 3 ∨ k = 4 ∨ k = 5 ∨ k = 6 := by omega
  · exact .inl ⟨rfl, rfl⟩
  · exact .inr (.inl ⟨rfl, rfl⟩)
  · exact .inr (.inr (.inl ⟨rfl, rfl⟩))
  · exact .inr (.inr (.inr (.inl ⟨rfl, rfl⟩)))
  · exact .inr (.inr (.inr (.inr (.inl ⟨rfl, rfl⟩))))
  · exact .inr (.inr (.inr (.inr (.inr (.inl ⟨rfl, rfl⟩)))))
  · exact .inr (.inr (.inr (.inr (.inr (.inr ⟨rfl, rfl⟩)))))
theorem join3_le (a b c : ByteArray) (n : Nat) (ha : a.size ≤ n) (hb : b.size ≤ n) (hc : c.size ≤ n) : (Lib.join ([a, b, c].map (·.data.toList)) [32]).length ≤ 3 * n + 2 := by
  rw [Lib.size_eq] at ha hb hc
  simp only [List.map_cons, List.map_nil, Lib.join_cons, Lib.joinTail, List.flatten_cons, List.flatten_nil, List.length_append, List.length_cons, List.length_nil]
  omega
/-- What stands when a kind's reader is called. -/
structure RdW (w W : World) (eb q sb off : Nat) (r : List ByteArray) (x : Eff) : Prop where
  HT : TabA w
  b : Below w.heap.size w W
  e : W.heap[eb]? = some (.cells (effC x (.slice none 0 0)) 27 (0, 0))
  ge : w.heap.size ≤ eb
  d : x.d = []
  s : ∀ (j : Nat) y, r[j]? = some y → W.cell? ⟨sb, off + j, none⟩ = some (.string y)
  slt : sb < W.heap.size
  sne : sb ≠ eb
  q1 : W.heap[q + 1]? = some (.cells #[.func (.func 47) #[] #[]] 56 (0, 0))
  qne : q + 1 ≠ eb
  sz : ∀ y ∈ r, y.size ≤ 30000
def RdAfter (k : Nat) (r : List ByteArray) (x : Eff) (w W : World) (eb : Nat) (e : Ending) (w' : World) : Prop :=
  ∃ v', e = .returned (.bool (rdK k r x).1) ∧ w'.heap[eb]? = some (.cells (effC (rdK k r x).2 v') 27 (0, 0)) ∧ v'.oneCell' = true ∧ Kd.R (Kd.int .u8) 5 w' (w.heap.size + 1) (fun _ => True) v' (rdK k r x).2.d ∧ W.grownBy w' (some eb)
theorem RdW.tab {w W : World} {eb q sb off : Nat} {r : List ByteArray} {x : Eff} (h : RdW w W eb q sb off r x) : TabA W := h.HT.below h.b
theorem rd_attrs {w W : World} {eb q sb off : Nat} {r : List ByteArray} {x : Eff} (k : Nat) (hk : k < 2) (hr : r.length = 3) (c : Nat) (hc : 3 ≤ c) (h : RdW w W eb q sb off r x) :
    Calls Tryz.prog 42 #[.pointer (some ⟨eb, 0, none⟩), .slice (some ⟨sb, off, none⟩) 3 c] W (RdAfter k r x w W eb) := by
  have hjl : (Lib.join (r.map (·.data.toList)) [32]).length ≤ 100000 := by
    match r, hr, h.sz with
    | [a, b, c], _, hz => exact Nat.le_trans (join3_le a b c 30000 (hz a (by simp)) (hz b (by simp)) (hz c (by simp))) (by omega)
  have HJ := Tryz.strings_Join sb off c r ⟨#[32]⟩ W h.s h.slt (by omega) (by omega) (Nat.le_trans hjl (by omega))
  rw [hr] at HJ
  have hsz : (⟨(Lib.join (r.map (·.data.toList)) [32]).toArray⟩ : ByteArray).size ≤ 100000 := by rw [Lib.size_eq]; exact hjl
  refine (readAttrs_core ⟨(Lib.join (r.map (·.data.toList)) [32]).toArray⟩ _ _ _ _ eb 3 c _ x (.slice none 0 0) W h.e HJ (fun W' hb' => attrs_Read.calls _ _ _ _ _ W' (h.tab.below hb') (by unfold attrs_Read.f; rw [if_pos hsz])) ).mono ?_
  rintro e w' ⟨rfl, hE, hg⟩
  have hrd : rdK k r x = (((readV ⟨(Lib.join (r.map (·.data.toList)) [32]).toArray⟩).2.2.2 == 0), { x with fl := (readV ⟨(Lib.join (r.map (·.data.toList)) [32]).toArray⟩).1, mn := (readV ⟨(Lib.join (r.map (·.data.toList)) [32]).toArray⟩).2.1, tm := (readV ⟨(Lib.join (r.map (·.data.toList)) [32]).toArray⟩).2.2.1 }) := by
    unfold rdK
    rw [if_pos hk]
  unfold RdAfter
  rw [hrd]
  refine ⟨_, rfl, hE, rfl, ?_, hg⟩
  show Kd.R _ _ _ _ _ _ x.d
  rw [h.d]
  exact Kd.R_nil _ _ _ _ _
theorem rd_bytes {w W : World} {eb q sb off : Nat} {r : List ByteArray} {x : Eff} (hr : r.length = 2) (c : Nat) (hc : 2 ≤ c) (h : RdW w W eb q sb off r x) :
    Calls Tryz.prog 51 #[.pointer (some ⟨eb, 0, none⟩), .slice (some ⟨sb, off, none⟩) 2 c, .pointer (some ⟨q + 1, 0, none⟩)] W (RdAfter 2 r x w W eb) := by
  match r, hr, h with
  | [s0, s1], _, h =>
    have z0 := h.sz s0 (by simp)
    have z1 := h.sz s1 (by simp)
    have c0 := h.s 0 s0 rfl
    have c1 := h.s 1 s1 rfl
    refine (readBytes_core s0 s1 (toldOk s0.data.toList) (toldL s0.data.toList) (numOk s1) (atoiV s1.data.toList) eb sb off c (q + 1) x (.slice none 0 0) W h.e c0 c1 h.sne h.qne hc (blk_cell h.q1 0) (told_ok s0 (by omega) W)
      (fun W' u hg hE hc' => readCount_ok s1 (by omega) eb sb (off + 1) 1 (c - 1) { x with d := toldL s0.data.toList } u W' (h.HT.below (h.b.grown hg h.b.size (fun k e => by have := Option.some.inj e; have := h.ge; omega))) hE hc' (by omega) (by omega))).mono ?_
    rintro e w' ⟨v', rfl, hE, hR, hg⟩
    obtain ⟨A', c', rfl⟩ := Kd.R_slice hR
    exact ⟨_, rfl, hE, rfl, Kd.R_lower hR (by have := blk_lt h.e; have := h.ge; omega), hg⟩
theorem rd_count {w W : World} {eb q sb off : Nat} {r : List ByteArray} {x : Eff} (k : Nat) (hk : k = 3 ∨ k = 4) (hr : r.length = 1) (c : Nat) (h : RdW w W eb q sb off r x) :
    Calls Tryz.prog 47 #[.pointer (some ⟨eb, 0, none⟩), .slice (some ⟨sb, off, none⟩) 1 c] W (RdAfter k r x w W eb) := by
  match r, hr, h with
  | [s0], _, h =>
    have z0 := h.sz s0 (by simp)
    have c0 := h.s 0 s0 rfl
    refine (readCount_ok s0 (by omega) eb sb off 1 c x (.slice none 0 0) W h.tab h.e c0 (by omega) (by omega)).mono ?_
    rintro e w' ⟨rfl, hE, hg⟩
    have hrd : rdK k [s0] x = (numOk s0, { x with n := atoiV s0.data.toList }) := by
      unfold rdK
      rw [if_neg (by omega), if_neg (by omega), if_pos (by omega)]
      rfl
    unfold RdAfter
    rw [hrd]
    refine ⟨_, rfl, hE, rfl, ?_, hg⟩
    show Kd.R _ _ _ _ _ _ x.d
    rw [h.d]
    exact Kd.R_nil _ _ _ _ _
theorem rd_always {w W : World} {eb q sb off : Nat} {r : List ByteArray} {x : Eff} (k : Nat) (hk : 5 ≤ k) (v : Value) (h : RdW w W eb q sb off r x) :
    Calls Tryz.prog 54 #[.pointer (some ⟨eb, 0, none⟩), v] W (RdAfter k r x w W eb) := by
  refine (always_ok _ _ W).mono ?_
  rintro e w' ⟨rfl, rfl⟩
  have hrd : rdK k r x = (true, x) := by
    unfold rdK
    rw [if_neg (by omega), if_neg (by omega), if_neg (by omega)]
  unfold RdAfter
  rw [hrd]
  refine ⟨_, rfl, h.e, rfl, ?_, World.grownBy.refl _ _⟩
  show Kd.R _ _ _ _ _ _ x.d
  rw [h.d]
  exact Kd.R_nil _ _ _ _ _
set_option maxHeartbeats 8000000 in
set_option maxRecDepth 100000 in
theorem read_core (s w0 : ByteArray) (r : List ByteArray) (hs : s.size ≤ 30000) (hps : pieces 32 s = w0 :: r) (w : World) (HT : TabA w) :
    Calls Tryz.prog 13 #[.string s] w (RdPost w (readR w0 r).1 (readR w0 r).2) := by
  have hl := pieces_length 32 s
  have hsz : Aside0 (∀ y ∈ r, y.size ≤ 30000) := ⟨fun y hy => Nat.le_trans (pieces_size 32 s y (by rw [hps]; simp [hy])) hs⟩
  rw [hps, List.length_cons] at hl
  have H1 := HT.below ((Below.refl _ w).alloc (Nat.le_refl _) (.cells (effC Eff.zero (.slice none 0 0)) 27))
  have HS := split_eq s 32 (by omega) _ H1
  rw [hps, List.length_cons] at HS
  have HW := kinds_ok ((w.alloc (.cells (effC Eff.zero (.slice none 0 0)) 27)).alloc (.cells ((w0 :: r).map Value.string).toArray 9))
  clear hps H1
  unfold effC Eff.zero at HS HW
  go_enter Tryz.func13, Tryz.ntmps13
  go_wp2_with (fail)
  refine HS.mono ?_
  rintro e w1 ⟨rfl, rfl⟩
  go_wp2_with (fail)
  refine HW.mono ?_
  rintro e w2 ⟨rfl, _, hq, hb2⟩
  have hz : ((w.alloc (.cells (effC Eff.zero (.slice none 0 0)) 27)).alloc (.cells ((w0 :: r).map Value.string).toArray 9)).heap.size = w.heap.size + 2 := by simp
  have hR0 : ((w.alloc (.cells (effC Eff.zero (.slice none 0 0)) 27)).alloc (.cells ((w0 :: r).map Value.string).toArray 9)).heap[w.heap.size]? = some (.cells (effC Eff.zero (.slice none 0 0)) 27 (0, 0)) := (heap_alloc_old _ _ (by simp)).trans (heap_alloc_new _ _)
  have hS0 : ((w.alloc (.cells (effC Eff.zero (.slice none 0 0)) 27)).alloc (.cells ((w0 :: r).map Value.string).toArray 9)).heap[w.heap.size + 1]? = some (.cells ((w0 :: r).map Value.string).toArray 9 (0, 0)) := by
    have := heap_alloc_new (w.alloc (.cells (effC Eff.zero (.slice none 0 0)) 27)) (.cells ((w0 :: r).map Value.string).toArray 9)
    simpa using this
  have hB0 : Below w.heap.size w ((w.alloc (.cells (effC Eff.zero (.slice none 0 0)) 27)).alloc (.cells ((w0 :: r).map Value.string).toArray 9)) := ((Below.refl _ w).alloc (Nat.le_refl _) _).alloc (by simp) _
  have HL : Aside0 (RdL w w2 (w.heap.size + 3) (w0 :: r)) := by
    unfold effC Eff.zero at hz hR0 hS0 hB0
    refine ⟨⟨?_, ?_, ?_, by omega, ?_⟩⟩
    · exact (hb2.block _ (by rw [hz]; omega)).trans hR0
    · exact (hb2.block _ (by rw [hz]; omega)).trans hS0
    · rw [hz] at hq
      exact hq
    · exact hB0.trans (hb2.mono (by rw [hz]; omega))
  have hqq : ((w.alloc (.cells (effC Eff.zero (.slice none 0 0)) 27)).alloc (.cells ((w0 :: r).map Value.string).toArray 9)).heap.size + 1 = w.heap.size + 3 := by rw [hz]
  unfold effC Eff.zero at hqq
  rw [hqq]
  clear HS HW hq hb2 hz hR0 hS0 hB0 hqq
  have hqlt : w.heap.size + 1 < w.heap.size + 3 := by omega
  generalize w.heap.size + 3 = q at *
  generalize hnn : r.length + 1 = n at *
  have hnA := Aside0.mk hnn
  clear hnn
  go_wp2_with (fail)
  go_loopw [12] (fun v12 wr => ∃ k : Nat, v12 = .int .i64 k ∧ Aside0 (k ≤ 7) ∧ Aside0 (SoFar w0 r k) ∧ Aside0 (RdL w wr q (w0 :: r))) (fun v12 _ => 7 - (intOf v12).toNat)
  case atStart => exact ⟨0, rfl, ⟨by omega⟩, ⟨SoFar.start w0 r⟩, HL⟩
  case round =>
    obtain ⟨k, rfl, hk, hsf, hL⟩ := hrel
    clear HL
    by_cases hlt : k < 7
    · have hidx := kind_at q k hlt
      have hltI : (k : Int) < 7 := by omega
      go_wp2_with (refine gate_ (.store 58 (.tmp 6) (.tmp 15)) rfl ?roundEnd)
      refine wpList_store_last rfl 58 (.tmp 6) (.tmp 15) rfl wr.heap.size _ (kCells q k) rfl rfl rfl (by kernel_rfl) rfl (kCells_one q k hlt) ?_
      have hb1 : Below wr.heap.size wr (wr.alloc (.cells (kCells q k) 58)) := (Below.refl _ wr).alloc (Nat.le_refl _) _
      have hL1 := Aside0.mk (hL.out.below hb1)
      have hkb := Aside0.mk (heap_alloc_new wr (.cells (kCells q k) 58))
      clear hidx hb1 hL
      generalize wr.heap.size = kb at *
      generalize wr.alloc (.cells (kCells q k) 58) = w1 at *
      have s0 : w1.cell? ⟨w.heap.size + 1, 0, none⟩ = some (.string w0) := blk_cell hL1.out.s 0
      have k0 : w1.cell? ⟨kb, 0, none⟩ = some (.string (kWord k)) := blk_cell hkb.out 0
      by_cases hw : w0 = kWord k
      · have hw' : (w0.toList == (kWord k).toList) = true := by rw [ba_beq, decide_eq_true hw]
        have hn0 : 0 < n := by have := hnA.out; omega
        have k1 : w1.cell? ⟨kb, 1, none⟩ = some (.bool (kWent k)) := blk_cell hkb.out 1
        have k2 : w1.cell? ⟨kb, 2, none⟩ = some (.int .i64 (kMore k : Nat)) := blk_cell hkb.out 2
        have k4 : w1.cell? ⟨kb, 4, none⟩ = some (kRd q k) := blk_cell hkb.out 4
        have hwA := Aside0.mk hw
        clear hw
        go_wp2_with (fail)
        go_quiet (fail)
        go_wp2_with (fail)
        have hbn : Below w1.heap.size w1 (w1.drewN nq) := pw_below_drewN (Below.refl _ _) _
        have hL2 := Aside0.mk (hL1.out.below hbn)
        have hkb2 := Aside0.mk ((hbn.block kb (blk_lt hkb.out)).trans hkb.out)
        clear k0 k1 k2 k4 s0 hL1 hkb hbn
        generalize w1.drewN nq = W at *
        -- MARK A
        cases r with
        | nil =>
          have hn1 : n = 1 := by have := hnA.out; simp at this; omega
          subst hn1
          go_region_with (fail)
          have hb3 : Below W.heap.size W (W.alloc (.cells #[.int .i64 (k : Nat), .int .u32 0, .int .u8 0, .int .u8 0, .slice none 0 0, .int .i64 0, .bool false] 27)).drew := below_drew1 ((Below.refl _ W).alloc (Nat.le_refl _) _)
          have hE3 : Aside0 ((W.alloc (.cells #[.int .i64 (k : Nat), .int .u32 0, .int .u8 0, .int .u8 0, .slice none 0 0, .int .i64 0, .bool false] 27)).drew.heap[W.heap.size]? = some (.cells (effC ⟨k, 0, 0, 0, [], 0, false⟩ (.slice none 0 0)) 27 (0, 0))) := ⟨heap_alloc_new W _⟩
          have heb := Aside0.mk (And.intro (blk_lt hL2.out.s) (And.intro (blk_lt hL2.out.q1) hL2.out.b.size))
          have hkbe : Aside0 (kb ≠ W.heap.size) := ⟨fun e => by have := blk_lt hkb2.out; omega⟩
          have hL3 := Aside0.mk (hL2.out.below hb3)
          have hkb3 := Aside0.mk ((hb3.block kb (blk_lt hkb2.out)).trans hkb2.out)
          clear hL2 hkb2 hb3
          generalize W.heap.size = eb at *
          generalize (W.alloc (.cells #[.int .i64 (k : Nat), .int .u32 0, .int .u8 0, .int .u8 0, .slice none 0 0, .int .i64 0, .bool false] 27)).drew = W3 at *
          have k1 : W3.cell? ⟨kb, 1, none⟩ = some (.bool (kWent k)) := blk_cell hkb3.out 1
          cases hwt : kWent k
          · rw [hwt] at k1
            have k2 : W3.cell? ⟨kb, 2, none⟩ = some (.int .i64 (kMore k : Nat)) := blk_cell hkb3.out 2
            have k4 : W3.cell? ⟨kb, 4, none⟩ = some (kRd q k) := blk_cell hkb3.out 4
            generalize hmk : kMore k = mk at *
            have hmkA := Aside0.mk hmk
            clear hmk
            by_cases hlen : ([] : List ByteArray).length = mk
            · have hleq : (((0 : Nat) : Int) == (mk : Int)) = true := by simp only [List.length_cons, List.length_nil] at *; simp; omega
              have hRW : RdW w W3 eb q (w.heap.size + 1) 1 ([] : List ByteArray) ⟨k, 0, 0, 0, [], 0, false⟩ := ⟨HT, hL3.out.b, hE3.out, by have := heb.out; omega, rfl, fun j y hj => ?_, blk_lt hL3.out.s, by have := heb.out; omega, hL3.out.q1, by have := heb.out; omega, fun y hy => hsz.out y (by cases hy)⟩
              · have hRA := Aside0.mk hRW
                have hlenA := Aside0.mk hlen
                clear hRW
                generalize hfr : kRd q k = fr at *
                have hk4 := kWent_ge hwt
                have hcs := kRd_cases q k hlt fr hfr
                clear hfr hlen
                rcases hcs with ⟨rfl, rfl⟩ | ⟨rfl, rfl⟩ | ⟨rfl, rfl⟩ | ⟨rfl, rfl⟩ | ⟨rfl, rfl⟩ | ⟨rfl, rfl⟩ | ⟨rfl, rfl⟩
                · exact absurd hk4 (by omega)
                · exact absurd hk4 (by omega)
                · exact absurd hk4 (by omega)
                · exact absurd hk4 (by omega)
                · exact absurd (hlenA.out.trans hmkA.out.symm) (by simp [kMore])
                · obtain rfl : mk = 0 := hmkA.out.symm
                  go_wp2_with (fail)
                  refine (rd_always 5 (by omega) _ hRA.out).mono ?_
                  rintro e w5 ⟨v', rfl, hE5, _, hR5, hg5⟩
                  have hL5 := Aside0.mk ((hL3.out).grown hg5 heb.out)
                  obtain ⟨A', c', rfl⟩ := Kd.R_slice hR5
                  have hE5A := Aside0.mk hE5
                  have hR5A := Aside0.mk hR5
                  generalize hbb : (rdK 5 ([] : List ByteArray) ⟨5, 0, 0, 0, [], 0, false⟩).1 = bb at *
                  generalize hXX : (rdK 5 ([] : List ByteArray) ⟨5, 0, 0, 0, [], 0, false⟩).2 = X at *
                  have hbA := Aside0.mk hbb
                  have hXA := Aside0.mk hXX
                  clear hE5 hR5 hg5 hbb hXX
                  cases bb
                  · go_wp2_with (fail)
                    go_roundw
                    case rel => exact ⟨5 + 1, by go_num, ⟨by omega⟩, ⟨SoFar.fell hwA.out (by rw [hwA.out]; exact ((readW_at hlt _).trans (body_bare _ hwt)).trans (fin_bad hbA.out))⟩, ⟨hL5.out⟩⟩
                    case measure => first | (simp [intOf]; done) | (simp [intOf]; omega)
                  · obtain ⟨⟨c0, c1, c2, c3, c4, c5, c6⟩, f0, f1, f2, f3, f4, f5, f6⟩ := eff_cells hL5.out.r
                    obtain ⟨⟨e0, e1, e2, e3, e4, e5, e6⟩, _⟩ := eff_cells hE5A.out
                    have hyes : readW w0 ([] : List ByteArray) = some X := by rw [hwA.out]; exact ((readW_at hlt _).trans (body_bare _ hwt)).trans (fin_ok hlenA.out hbA.out hXA.out)
                    go_wp2_with (fail)
                    refine bodyPost_ret (results_ct rfl _ _ w.heap.size 27 (effC X (.slice A' X.d.length c')) (0, 0) _ rfl (by exact blk7 hL5.out.r _ _ _ _ _ _ _) Tryz.underlying27 rfl (by kernel_rfl)) rfl ?_
                    unfold readR
                    rw [hyes]
                    refine ⟨_, rfl, ?_, set7_below hL5.out.b (Nat.le_refl _) _ _ _ _ _ _ _⟩
                    exact set7_R hR5A.out _ _ _ _ _ _ _
                · obtain rfl : mk = 0 := hmkA.out.symm
                  go_wp2_with (fail)
                  refine (rd_always 6 (by omega) _ hRA.out).mono ?_
                  rintro e w5 ⟨v', rfl, hE5, _, hR5, hg5⟩
                  have hL5 := Aside0.mk ((hL3.out).grown hg5 heb.out)
                  obtain ⟨A', c', rfl⟩ := Kd.R_slice hR5
                  have hE5A := Aside0.mk hE5
                  have hR5A := Aside0.mk hR5
                  generalize hbb : (rdK 6 ([] : List ByteArray) ⟨6, 0, 0, 0, [], 0, false⟩).1 = bb at *
                  generalize hXX : (rdK 6 ([] : List ByteArray) ⟨6, 0, 0, 0, [], 0, false⟩).2 = X at *
                  have hbA := Aside0.mk hbb
                  have hXA := Aside0.mk hXX
                  clear hE5 hR5 hg5 hbb hXX
                  cases bb
                  · go_wp2_with (fail)
                    go_roundw
                    case rel => exact ⟨6 + 1, by go_num, ⟨by omega⟩, ⟨SoFar.fell hwA.out (by rw [hwA.out]; exact ((readW_at hlt _).trans (body_bare _ hwt)).trans (fin_bad hbA.out))⟩, ⟨hL5.out⟩⟩
                    case measure => first | (simp [intOf]; done) | (simp [intOf]; omega)
                  · obtain ⟨⟨c0, c1, c2, c3, c4, c5, c6⟩, f0, f1, f2, f3, f4, f5, f6⟩ := eff_cells hL5.out.r
                    obtain ⟨⟨e0, e1, e2, e3, e4, e5, e6⟩, _⟩ := eff_cells hE5A.out
                    have hyes : readW w0 ([] : List ByteArray) = some X := by rw [hwA.out]; exact ((readW_at hlt _).trans (body_bare _ hwt)).trans (fin_ok hlenA.out hbA.out hXA.out)
                    go_wp2_with (fail)
                    refine bodyPost_ret (results_ct rfl _ _ w.heap.size 27 (effC X (.slice A' X.d.length c')) (0, 0) _ rfl (by exact blk7 hL5.out.r _ _ _ _ _ _ _) Tryz.underlying27 rfl (by kernel_rfl)) rfl ?_
                    unfold readR
                    rw [hyes]
                    refine ⟨_, rfl, ?_, set7_below hL5.out.b (Nat.le_refl _) _ _ _ _ _ _ _⟩
                    exact set7_R hR5A.out _ _ _ _ _ _ _
              · have : (1 : Nat) + j = j + 1 := by omega
                rw [this]
                refine (blk_cell hL3.out.s (j + 1)).trans ?_
                cases hj
            · have hleq : (((0 : Int)) == (mk : Int)) = false := by simp only [List.length_cons, List.length_nil] at *; simp; omega
              go_wp2_with (fail)
              go_roundw
              case rel => exact ⟨k + 1, by go_num, ⟨by omega⟩, ⟨SoFar.fell hwA.out (by rw [hwA.out]; exact (readW_at hlt _).trans ((body_bare _ hwt).trans (fin_len (by rw [hmkA.out]; exact hlen))))⟩, ⟨hL3.out⟩⟩
              case measure => first | (simp [intOf]; done) | (simp [intOf]; omega)
          · rw [hwt] at k1
            obtain ⟨⟨c0, c1, c2, c3, c4, c5, c6⟩, f0, f1, f2, f3, f4, f5, f6⟩ := eff_cells hL3.out.r
            have hno : readW w0 [] = none := by rw [hwA.out]; exact (readW_at hlt _).trans (body_none hwt)
            go_wp2_with (fail)
            refine bodyPost_ret (results_ct rfl _ _ w.heap.size 27 (effC Eff.zero (.slice none 0 0)) (0, 0) _ rfl (by exact blk7 hL3.out.r _ _ _ _ _ _ _) Tryz.underlying27 rfl (by kernel_rfl)) rfl ?_
            unfold readR
            rw [hno]
            exact ⟨_, rfl, Kd.R_nil _ _ _ _ _, set7_below hL3.out.b (Nat.le_refl _) _ _ _ _ _ _ _⟩
        | cons r0 r' =>
          have hne : n ≠ 1 := by have := hnA.out; simp at this; omega
          have hn0' : n ≠ 0 := by omega
          have hnI : (1 : Int) ≤ n := by omega
          go_region_with (fail)
          have hmA : Aside0 (n - 1 = r'.length + 1) := ⟨by have := hnA.out; simp at this; omega⟩
          have hb3 : Below W.heap.size W (W.alloc (.cells #[.int .i64 (k : Nat), .int .u32 0, .int .u8 0, .int .u8 0, .slice none 0 0, .int .i64 0, .bool false] 27)).drew := below_drew1 ((Below.refl _ W).alloc (Nat.le_refl _) _)
          have hE3 : Aside0 ((W.alloc (.cells #[.int .i64 (k : Nat), .int .u32 0, .int .u8 0, .int .u8 0, .slice none 0 0, .int .i64 0, .bool false] 27)).drew.heap[W.heap.size]? = some (.cells (effC ⟨k, 0, 0, 0, [], 0, false⟩ (.slice none 0 0)) 27 (0, 0))) := ⟨heap_alloc_new W _⟩
          have heb := Aside0.mk (And.intro (blk_lt hL2.out.s) (And.intro (blk_lt hL2.out.q1) hL2.out.b.size))
          have hkbe : Aside0 (kb ≠ W.heap.size) := ⟨fun e => by have := blk_lt hkb2.out; omega⟩
          have hL3 := Aside0.mk (hL2.out.below hb3)
          have hkb3 := Aside0.mk ((hb3.block kb (blk_lt hkb2.out)).trans hkb2.out)
          clear hL2 hkb2 hb3
          generalize W.heap.size = eb at *
          generalize (W.alloc (.cells #[.int .i64 (k : Nat), .int .u32 0, .int .u8 0, .int .u8 0, .slice none 0 0, .int .i64 0, .bool false] 27)).drew = W3 at *
          have k1 : W3.cell? ⟨kb, 1, none⟩ = some (.bool (kWent k)) := blk_cell hkb3.out 1
          have s1 : W3.cell? ⟨w.heap.size + 1, 1, none⟩ = some (.string r0) := blk_cell hL3.out.s 1
          generalize n - 1 = m at *
          have hm0 : 0 < m := by have := hmA.out; omega
          cases hwt : kWent k
          · rw [hwt] at k1
            have k2 : W3.cell? ⟨kb, 2, none⟩ = some (.int .i64 (kMore k : Nat)) := blk_cell hkb3.out 2
            have k4 : W3.cell? ⟨kb, 4, none⟩ = some (kRd q k) := blk_cell hkb3.out 4
            generalize hmk : kMore k = mk at *
            have hmkA := Aside0.mk hmk
            clear hmk
            by_cases hlen : (r0 :: r').length = mk
            · have hleq : (((m : Nat) : Int) == (mk : Int)) = true := by have := hmA.out; simp only [List.length_cons, List.length_nil] at *; simp; omega
              have hRW : RdW w W3 eb q (w.heap.size + 1) 1 (r0 :: r') ⟨k, 0, 0, 0, [], 0, false⟩ := ⟨HT, hL3.out.b, hE3.out, by have := heb.out; omega, rfl, fun j y hj => ?_, blk_lt hL3.out.s, by have := heb.out; omega, hL3.out.q1, by have := heb.out; omega, fun y hy => hsz.out y (by exact hy)⟩
              · have hRA := Aside0.mk hRW
                have hlenA := Aside0.mk hlen
                clear hRW
                generalize hfr : kRd q k = fr at *
                have hk4 := kWent_ge hwt
                have hcs := kRd_cases q k hlt fr hfr
                clear hfr hlen
                rcases hcs with ⟨rfl, rfl⟩ | ⟨rfl, rfl⟩ | ⟨rfl, rfl⟩ | ⟨rfl, rfl⟩ | ⟨rfl, rfl⟩ | ⟨rfl, rfl⟩ | ⟨rfl, rfl⟩
                · exact absurd hk4 (by omega)
                · exact absurd hk4 (by omega)
                · exact absurd hk4 (by omega)
                · exact absurd hk4 (by omega)
                · obtain rfl : mk = 1 := hmkA.out.symm
                  have HLN : (r0 :: r').length = 1 := by have := hlenA.out; simp only [List.length_cons] at *; omega
                  obtain rfl : m = 1 := by have := hmA.out; simp only [List.length_cons] at *; omega
                  go_wp2_with (fail)
                  refine (rd_count 4 (by omega) HLN _ hRA.out).mono ?_
                  rintro e w5 ⟨v', rfl, hE5, _, hR5, hg5⟩
                  have hL5 := Aside0.mk ((hL3.out).grown hg5 heb.out)
                  obtain ⟨A', c', rfl⟩ := Kd.R_slice hR5
                  have hE5A := Aside0.mk hE5
                  have hR5A := Aside0.mk hR5
                  generalize hbb : (rdK 4 (r0 :: r') ⟨4, 0, 0, 0, [], 0, false⟩).1 = bb at *
                  generalize hXX : (rdK 4 (r0 :: r') ⟨4, 0, 0, 0, [], 0, false⟩).2 = X at *
                  have hbA := Aside0.mk hbb
                  have hXA := Aside0.mk hXX
                  clear hE5 hR5 hg5 hbb hXX
                  cases bb
                  · go_wp2_with (fail)
                    go_roundw
                    case rel => exact ⟨4 + 1, by go_num, ⟨by omega⟩, ⟨SoFar.fell hwA.out (by rw [hwA.out]; exact ((readW_at hlt _).trans (body_bare _ hwt)).trans (fin_bad hbA.out))⟩, ⟨hL5.out⟩⟩
                    case measure => first | (simp [intOf]; done) | (simp [intOf]; omega)
                  · obtain ⟨⟨c0, c1, c2, c3, c4, c5, c6⟩, f0, f1, f2, f3, f4, f5, f6⟩ := eff_cells hL5.out.r
                    obtain ⟨⟨e0, e1, e2, e3, e4, e5, e6⟩, _⟩ := eff_cells hE5A.out
                    have hyes : readW w0 (r0 :: r') = some X := by rw [hwA.out]; exact ((readW_at hlt _).trans (body_bare _ hwt)).trans (fin_ok hlenA.out hbA.out hXA.out)
                    go_wp2_with (fail)
                    refine bodyPost_ret (results_ct rfl _ _ w.heap.size 27 (effC X (.slice A' X.d.length c')) (0, 0) _ rfl (by exact blk7 hL5.out.r _ _ _ _ _ _ _) Tryz.underlying27 rfl (by kernel_rfl)) rfl ?_
                    unfold readR
                    rw [hyes]
                    refine ⟨_, rfl, ?_, set7_below hL5.out.b (Nat.le_refl _) _ _ _ _ _ _ _⟩
                    exact set7_R hR5A.out _ _ _ _ _ _ _
                · exact absurd (hlenA.out.trans hmkA.out.symm) (by simp [kMore])
                · exact absurd (hlenA.out.trans hmkA.out.symm) (by simp [kMore])
              · have : (1 : Nat) + j = j + 1 := by omega
                rw [this]
                refine (blk_cell hL3.out.s (j + 1)).trans ?_
                have h9 := map_cell hj; simpa using h9
            · have hleq : ((((m : Nat) : Int)) == (mk : Int)) = false := by have := hmA.out; simp only [List.length_cons, List.length_nil] at *; simp; omega
              go_wp2_with (fail)
              go_roundw
              case rel => exact ⟨k + 1, by go_num, ⟨by omega⟩, ⟨SoFar.fell hwA.out (by rw [hwA.out]; exact (readW_at hlt _).trans ((body_bare _ hwt).trans (fin_len (by rw [hmkA.out]; exact hlen))))⟩, ⟨hL3.out⟩⟩
              case measure => first | (simp [intOf]; done) | (simp [intOf]; omega)
          · rw [hwt] at k1
            have hm00 : m ≠ 0 := by omega
            by_cases hok : r0 = okW
            · have hdec : decide (r0 = okW) = true := decide_eq_true hok
              have hor : r0 = okW ∨ r0 = failW := .inl hok
              have hbody : ∀ t, bodyK k (r0 :: t) = finK k t ⟨k, 0, 0, 0, [], 0, true⟩ := fun t => body_went t hwt hor hdec
              have ho1 : (r0.toList == [111, 107]) = true := by rw [hok]; decide +kernel
              have hbodyA := Aside0.mk hbody
              clear hdec hor hbody hok
              obtain ⟨⟨g0, g1, g2, g3, g4, g5, g6⟩, j0, j1, j2, j3, j4, j5, j6⟩ := eff_cells hE3.out

              cases r' with
              | nil =>
                have hm1 : m = 1 := by have := hmA.out; simpa using this
                subst hm1
                go_wp2_with (fail)
                go_region_with (fail)
                have hgr : W3.grownBy (W3.setCell ⟨eb, 6, none⟩ (.bool true)).drew (some eb) := World.grownBy.trans (grown_set W3 ⟨eb, 6, none⟩ _) (grown_below (below_drew1 (Below.refl _ _)) _)
                have hE4 : Aside0 ((W3.setCell ⟨eb, 6, none⟩ (.bool true)).drew.heap[eb]? = some (.cells (effC ⟨k, 0, 0, 0, [], 0, true⟩ (.slice none 0 0)) 27 (0, 0))) := ⟨blk_put hE3.out 6 _ rfl⟩
                have hL4 := Aside0.mk (hL3.out.grown hgr heb.out)
                have hkb4 := Aside0.mk ((hgr.block kb (blk_lt hkb3.out) (fun e => hkbe.out (Option.some.inj e))).trans hkb3.out)
                clear hL3 hkb3 hE3 g0 g1 g2 g3 g4 g5 g6 j0 j1 j2 j3 j4 j5 j6 hgr s1 k1
                generalize (W3.setCell ⟨eb, 6, none⟩ (.bool true)).drew = W4 at *
                have k2 : W4.cell? ⟨kb, 2, none⟩ = some (.int .i64 (kMore k : Nat)) := blk_cell hkb4.out 2
                have k4 : W4.cell? ⟨kb, 4, none⟩ = some (kRd q k) := blk_cell hkb4.out 4
                generalize hmk : kMore k = mk at *
                have hmkA := Aside0.mk hmk
                clear hmk
                have hmk0 : mk ≠ 0 := fun e => kMore_pos hwt hlt (hmkA.out.trans e)
                have hmki : ((0 : Int) == (mk : Int)) = false := by simp; omega
                go_wp2_with (fail)
                go_roundw
                case rel => exact ⟨k + 1, by go_num, ⟨by omega⟩, ⟨SoFar.fell hwA.out (by rw [hwA.out]; exact (readW_at hlt _).trans ((hbodyA.out _).trans (fin_len (by rw [hmkA.out]; simp; omega))))⟩, ⟨hL4.out⟩⟩
                case measure => first | (simp [intOf]; done) | (simp [intOf]; omega)
              | cons r1 r'' =>
                have hmn : m ≠ 1 := by have := hmA.out; simp at this; omega
                have hmn0 : m ≠ 0 := by have := hmA.out; simp at this; omega
                have hmI : (1 : Int) ≤ m := by omega
                go_wp2_with (fail)
                go_region_with (fail)
                have hgr : W3.grownBy (W3.setCell ⟨eb, 6, none⟩ (.bool true)).drew (some eb) := World.grownBy.trans (grown_set W3 ⟨eb, 6, none⟩ _) (grown_below (below_drew1 (Below.refl _ _)) _)
                have hE4 : Aside0 ((W3.setCell ⟨eb, 6, none⟩ (.bool true)).drew.heap[eb]? = some (.cells (effC ⟨k, 0, 0, 0, [], 0, true⟩ (.slice none 0 0)) 27 (0, 0))) := ⟨blk_put hE3.out 6 _ rfl⟩
                have hL4 := Aside0.mk (hL3.out.grown hgr heb.out)
                have hkb4 := Aside0.mk ((hgr.block kb (blk_lt hkb3.out) (fun e => hkbe.out (Option.some.inj e))).trans hkb3.out)
                clear hL3 hkb3 hE3 g0 g1 g2 g3 g4 g5 g6 j0 j1 j2 j3 j4 j5 j6 hgr s1 k1
                generalize (W3.setCell ⟨eb, 6, none⟩ (.bool true)).drew = W4 at *
                have k2 : W4.cell? ⟨kb, 2, none⟩ = some (.int .i64 (kMore k : Nat)) := blk_cell hkb4.out 2
                have k4 : W4.cell? ⟨kb, 4, none⟩ = some (kRd q k) := blk_cell hkb4.out 4
                generalize hmk : kMore k = mk at *
                have hmkA := Aside0.mk hmk
                clear hmk
                by_cases hlen : (r1 :: r'').length = mk
                · have hleq : (((m - 1 : Nat) : Int) == (mk : Int)) = true := by have := hmA.out; simp only [List.length_cons] at *; simp; omega
                  have hRW : RdW w W4 eb q (w.heap.size + 1) 2 (r1 :: r'') ⟨k, 0, 0, 0, [], 0, true⟩ := ⟨HT, hL4.out.b, hE4.out, by have := heb.out; omega, rfl, fun j y hj => ?_, blk_lt hL4.out.s, by have := heb.out; omega, hL4.out.q1, by have := heb.out; omega, fun y hy => hsz.out y (by simp [hy])⟩
                  · have hRA := Aside0.mk hRW
                    have hlenA := Aside0.mk hlen
                    clear hRW
                    generalize hfr : kRd q k = fr at *
                    have hk4 := kWent_lt hwt hlt
                    have hcs := kRd_cases q k hlt fr hfr
                    clear hfr hlen
                    rcases hcs with ⟨rfl, rfl⟩ | ⟨rfl, rfl⟩ | ⟨rfl, rfl⟩ | ⟨rfl, rfl⟩ | ⟨rfl, rfl⟩ | ⟨rfl, rfl⟩ | ⟨rfl, rfl⟩
                    · obtain rfl : mk = 3 := hmkA.out.symm
                      have hl2 : m - 1 = 3 := by have := hlenA.out; have := hmA.out; simp only [List.length_cons] at *; omega
                      have HLN : (r1 :: r'').length = 3 := by have := hmA.out; simp only [List.length_cons] at *; omega
                      generalize m - 1 = ml at *
                      subst hl2
                      go_wp2_with (fail)
                      refine (rd_attrs 0 (by omega) HLN _ (by omega) hRA.out).mono ?_
                      rintro e w5 ⟨v', rfl, hE5, _, hR5, hg5⟩
                      have hL5 := Aside0.mk ((hL4.out).grown hg5 heb.out)
                      obtain ⟨A', c', rfl⟩ := Kd.R_slice hR5
                      have hE5A := Aside0.mk hE5
                      have hR5A := Aside0.mk hR5
                      generalize hbb : (rdK 0 (r1 :: r'') ⟨0, 0, 0, 0, [], 0, true⟩).1 = bb at *
                      generalize hXX : (rdK 0 (r1 :: r'') ⟨0, 0, 0, 0, [], 0, true⟩).2 = X at *
                      have hbA := Aside0.mk hbb
                      have hXA := Aside0.mk hXX
                      clear hE5 hR5 hg5 hbb hXX
                      cases bb
                      · go_wp2_with (fail)
                        go_roundw
                        case rel => exact ⟨0 + 1, by go_num, ⟨by omega⟩, ⟨SoFar.fell hwA.out (by rw [hwA.out]; exact ((readW_at hlt _).trans (hbodyA.out _)).trans (fin_bad hbA.out))⟩, ⟨hL5.out⟩⟩
                        case measure => first | (simp [intOf]; done) | (simp [intOf]; omega)
                      · obtain ⟨⟨c0, c1, c2, c3, c4, c5, c6⟩, f0, f1, f2, f3, f4, f5, f6⟩ := eff_cells hL5.out.r
                        obtain ⟨⟨e0, e1, e2, e3, e4, e5, e6⟩, _⟩ := eff_cells hE5A.out
                        have hyes : readW w0 (r0 :: r1 :: r'') = some X := by rw [hwA.out]; exact ((readW_at hlt _).trans (hbodyA.out _)).trans (fin_ok hlenA.out hbA.out hXA.out)
                        go_wp2_with (fail)
                        refine bodyPost_ret (results_ct rfl _ _ w.heap.size 27 (effC X (.slice A' X.d.length c')) (0, 0) _ rfl (by exact blk7 hL5.out.r _ _ _ _ _ _ _) Tryz.underlying27 rfl (by kernel_rfl)) rfl ?_
                        unfold readR
                        rw [hyes]
                        refine ⟨_, rfl, ?_, set7_below hL5.out.b (Nat.le_refl _) _ _ _ _ _ _ _⟩
                        exact set7_R hR5A.out _ _ _ _ _ _ _
                    · obtain rfl : mk = 3 := hmkA.out.symm
                      have hl2 : m - 1 = 3 := by have := hlenA.out; have := hmA.out; simp only [List.length_cons] at *; omega
                      have HLN : (r1 :: r'').length = 3 := by have := hmA.out; simp only [List.length_cons] at *; omega
                      generalize m - 1 = ml at *
                      subst hl2
                      go_wp2_with (fail)
                      refine (rd_attrs 1 (by omega) HLN _ (by omega) hRA.out).mono ?_
                      rintro e w5 ⟨v', rfl, hE5, _, hR5, hg5⟩
                      have hL5 := Aside0.mk ((hL4.out).grown hg5 heb.out)
                      obtain ⟨A', c', rfl⟩ := Kd.R_slice hR5
                      have hE5A := Aside0.mk hE5
                      have hR5A := Aside0.mk hR5
                      generalize hbb : (rdK 1 (r1 :: r'') ⟨1, 0, 0, 0, [], 0, true⟩).1 = bb at *
                      generalize hXX : (rdK 1 (r1 :: r'') ⟨1, 0, 0, 0, [], 0, true⟩).2 = X at *
                      have hbA := Aside0.mk hbb
                      have hXA := Aside0.mk hXX
                      clear hE5 hR5 hg5 hbb hXX
                      cases bb
                      · go_wp2_with (fail)
                        go_roundw
                        case rel => exact ⟨1 + 1, by go_num, ⟨by omega⟩, ⟨SoFar.fell hwA.out (by rw [hwA.out]; exact ((readW_at hlt _).trans (hbodyA.out _)).trans (fin_bad hbA.out))⟩, ⟨hL5.out⟩⟩
                        case measure => first | (simp [intOf]; done) | (simp [intOf]; omega)
                      · obtain ⟨⟨c0, c1, c2, c3, c4, c5, c6⟩, f0, f1, f2, f3, f4, f5, f6⟩ := eff_cells hL5.out.r
                        obtain ⟨⟨e0, e1, e2, e3, e4, e5, e6⟩, _⟩ := eff_cells hE5A.out
                        have hyes : readW w0 (r0 :: r1 :: r'') = some X := by rw [hwA.out]; exact ((readW_at hlt _).trans (hbodyA.out _)).trans (fin_ok hlenA.out hbA.out hXA.out)
                        go_wp2_with (fail)
                        refine bodyPost_ret (results_ct rfl _ _ w.heap.size 27 (effC X (.slice A' X.d.length c')) (0, 0) _ rfl (by exact blk7 hL5.out.r _ _ _ _ _ _ _) Tryz.underlying27 rfl (by kernel_rfl)) rfl ?_
                        unfold readR
                        rw [hyes]
                        refine ⟨_, rfl, ?_, set7_below hL5.out.b (Nat.le_refl _) _ _ _ _ _ _ _⟩
                        exact set7_R hR5A.out _ _ _ _ _ _ _
                    · obtain rfl : mk = 2 := hmkA.out.symm
                      have hl2 : m - 1 = 2 := by have := hlenA.out; have := hmA.out; simp only [List.length_cons] at *; omega
                      have HLN : (r1 :: r'').length = 2 := by have := hmA.out; simp only [List.length_cons] at *; omega
                      generalize m - 1 = ml at *
                      subst hl2
                      go_wp2_with (fail)
                      refine (rd_bytes HLN _ (by omega) hRA.out).mono ?_
                      rintro e w5 ⟨v', rfl, hE5, _, hR5, hg5⟩
                      have hL5 := Aside0.mk ((hL4.out).grown hg5 heb.out)
                      obtain ⟨A', c', rfl⟩ := Kd.R_slice hR5
                      have hE5A := Aside0.mk hE5
                      have hR5A := Aside0.mk hR5
                      generalize hbb : (rdK 2 (r1 :: r'') ⟨2, 0, 0, 0, [], 0, true⟩).1 = bb at *
                      generalize hXX : (rdK 2 (r1 :: r'') ⟨2, 0, 0, 0, [], 0, true⟩).2 = X at *
                      have hbA := Aside0.mk hbb
                      have hXA := Aside0.mk hXX
                      clear hE5 hR5 hg5 hbb hXX
                      cases bb
                      · go_wp2_with (fail)
                        go_roundw
                        case rel => exact ⟨2 + 1, by go_num, ⟨by omega⟩, ⟨SoFar.fell hwA.out (by rw [hwA.out]; exact ((readW_at hlt _).trans (hbodyA.out _)).trans (fin_bad hbA.out))⟩, ⟨hL5.out⟩⟩
                        case measure => first | (simp [intOf]; done) | (simp [intOf]; omega)
                      · obtain ⟨⟨c0, c1, c2, c3, c4, c5, c6⟩, f0, f1, f2, f3, f4, f5, f6⟩ := eff_cells hL5.out.r
                        obtain ⟨⟨e0, e1, e2, e3, e4, e5, e6⟩, _⟩ := eff_cells hE5A.out
                        have hyes : readW w0 (r0 :: r1 :: r'') = some X := by rw [hwA.out]; exact ((readW_at hlt _).trans (hbodyA.out _)).trans (fin_ok hlenA.out hbA.out hXA.out)
                        go_wp2_with (fail)
                        refine bodyPost_ret (results_ct rfl _ _ w.heap.size 27 (effC X (.slice A' X.d.length c')) (0, 0) _ rfl (by exact blk7 hL5.out.r _ _ _ _ _ _ _) Tryz.underlying27 rfl (by kernel_rfl)) rfl ?_
                        unfold readR
                        rw [hyes]
                        refine ⟨_, rfl, ?_, set7_below hL5.out.b (Nat.le_refl _) _ _ _ _ _ _ _⟩
                        exact set7_R hR5A.out _ _ _ _ _ _ _
                    · obtain rfl : mk = 1 := hmkA.out.symm
                      have hl2 : m - 1 = 1 := by have := hlenA.out; have := hmA.out; simp only [List.length_cons] at *; omega
                      have HLN : (r1 :: r'').length = 1 := by have := hmA.out; simp only [List.length_cons] at *; omega
                      generalize m - 1 = ml at *
                      subst hl2
                      go_wp2_with (fail)
                      refine (rd_count 3 (by omega) HLN _ hRA.out).mono ?_
                      rintro e w5 ⟨v', rfl, hE5, _, hR5, hg5⟩
                      have hL5 := Aside0.mk ((hL4.out).grown hg5 heb.out)
                      obtain ⟨A', c', rfl⟩ := Kd.R_slice hR5
                      have hE5A := Aside0.mk hE5
                      have hR5A := Aside0.mk hR5
                      generalize hbb : (rdK 3 (r1 :: r'') ⟨3, 0, 0, 0, [], 0, true⟩).1 = bb at *
                      generalize hXX : (rdK 3 (r1 :: r'') ⟨3, 0, 0, 0, [], 0, true⟩).2 = X at *
                      have hbA := Aside0.mk hbb
                      have hXA := Aside0.mk hXX
                      clear hE5 hR5 hg5 hbb hXX
                      cases bb
                      · go_wp2_with (fail)
                        go_roundw
                        case rel => exact ⟨3 + 1, by go_num, ⟨by omega⟩, ⟨SoFar.fell hwA.out (by rw [hwA.out]; exact ((readW_at hlt _).trans (hbodyA.out _)).trans (fin_bad hbA.out))⟩, ⟨hL5.out⟩⟩
                        case measure => first | (simp [intOf]; done) | (simp [intOf]; omega)
                      · obtain ⟨⟨c0, c1, c2, c3, c4, c5, c6⟩, f0, f1, f2, f3, f4, f5, f6⟩ := eff_cells hL5.out.r
                        obtain ⟨⟨e0, e1, e2, e3, e4, e5, e6⟩, _⟩ := eff_cells hE5A.out
                        have hyes : readW w0 (r0 :: r1 :: r'') = some X := by rw [hwA.out]; exact ((readW_at hlt _).trans (hbodyA.out _)).trans (fin_ok hlenA.out hbA.out hXA.out)
                        go_wp2_with (fail)
                        refine bodyPost_ret (results_ct rfl _ _ w.heap.size 27 (effC X (.slice A' X.d.length c')) (0, 0) _ rfl (by exact blk7 hL5.out.r _ _ _ _ _ _ _) Tryz.underlying27 rfl (by kernel_rfl)) rfl ?_
                        unfold readR
                        rw [hyes]
                        refine ⟨_, rfl, ?_, set7_below hL5.out.b (Nat.le_refl _) _ _ _ _ _ _ _⟩
                        exact set7_R hR5A.out _ _ _ _ _ _ _
                    · exact absurd hk4 (by omega)
                    · exact absurd hk4 (by omega)
                    · exact absurd hk4 (by omega)
                  · have : (2 : Nat) + j = j + 2 := by omega
                    rw [this]
                    refine (blk_cell hL4.out.s (j + 2)).trans ?_
                    have h9 := map_cell hj
                    simpa using h9
                · have hleq : (((m - 1 : Nat) : Int) == (mk : Int)) = false := by have := hmA.out; simp only [List.length_cons] at *; simp; omega
                  go_wp2_with (fail)
                  go_roundw
                  case rel => exact ⟨k + 1, by go_num, ⟨by omega⟩, ⟨SoFar.fell hwA.out (by rw [hwA.out]; exact (readW_at hlt _).trans ((hbodyA.out _).trans (fin_len (by rw [hmkA.out]; exact hlen))))⟩, ⟨hL4.out⟩⟩
                  case measure => first | (simp [intOf]; done) | (simp [intOf]; omega)
            · by_cases hfa : r0 = failW
              · have hdec : decide (r0 = okW) = false := decide_eq_false hok
                have hor : r0 = okW ∨ r0 = failW := .inr hfa
                have hbody : ∀ t, bodyK k (r0 :: t) = finK k t ⟨k, 0, 0, 0, [], 0, false⟩ := fun t => body_went t hwt hor hdec
                have ho1 : (r0.toList == [111, 107]) = false := by rw [hfa]; decide +kernel
                have ho2 : (r0.toList == [102, 97, 105, 108]) = true := by rw [hfa]; decide +kernel
                have hbodyA := Aside0.mk hbody
                clear hdec hor hbody hok hfa
                obtain ⟨⟨g0, g1, g2, g3, g4, g5, g6⟩, j0, j1, j2, j3, j4, j5, j6⟩ := eff_cells hE3.out

                cases r' with
                | nil =>
                  have hm1 : m = 1 := by have := hmA.out; simpa using this
                  subst hm1
                  go_wp2_with (fail)
                  go_region_with (fail)
                  have hgr : W3.grownBy (W3.setCell ⟨eb, 6, none⟩ (.bool false)).drew (some eb) := World.grownBy.trans (grown_set W3 ⟨eb, 6, none⟩ _) (grown_below (below_drew1 (Below.refl _ _)) _)
                  have hE4 : Aside0 ((W3.setCell ⟨eb, 6, none⟩ (.bool false)).drew.heap[eb]? = some (.cells (effC ⟨k, 0, 0, 0, [], 0, false⟩ (.slice none 0 0)) 27 (0, 0))) := ⟨blk_put hE3.out 6 _ rfl⟩
                  have hL4 := Aside0.mk (hL3.out.grown hgr heb.out)
                  have hkb4 := Aside0.mk ((hgr.block kb (blk_lt hkb3.out) (fun e => hkbe.out (Option.some.inj e))).trans hkb3.out)
                  clear hL3 hkb3 hE3 g0 g1 g2 g3 g4 g5 g6 j0 j1 j2 j3 j4 j5 j6 hgr s1 k1
                  generalize (W3.setCell ⟨eb, 6, none⟩ (.bool false)).drew = W4 at *
                  have k2 : W4.cell? ⟨kb, 2, none⟩ = some (.int .i64 (kMore k : Nat)) := blk_cell hkb4.out 2
                  have k4 : W4.cell? ⟨kb, 4, none⟩ = some (kRd q k) := blk_cell hkb4.out 4
                  generalize hmk : kMore k = mk at *
                  have hmkA := Aside0.mk hmk
                  clear hmk
                  have hmk0 : mk ≠ 0 := fun e => kMore_pos hwt hlt (hmkA.out.trans e)
                  have hmki : ((0 : Int) == (mk : Int)) = false := by simp; omega
                  go_wp2_with (fail)
                  go_roundw
                  case rel => exact ⟨k + 1, by go_num, ⟨by omega⟩, ⟨SoFar.fell hwA.out (by rw [hwA.out]; exact (readW_at hlt _).trans ((hbodyA.out _).trans (fin_len (by rw [hmkA.out]; simp; omega))))⟩, ⟨hL4.out⟩⟩
                  case measure => first | (simp [intOf]; done) | (simp [intOf]; omega)
                | cons r1 r'' =>
                  have hmn : m ≠ 1 := by have := hmA.out; simp at this; omega
                  have hmn0 : m ≠ 0 := by have := hmA.out; simp at this; omega
                  have hmI : (1 : Int) ≤ m := by omega
                  go_wp2_with (fail)
                  go_region_with (fail)
                  have hgr : W3.grownBy (W3.setCell ⟨eb, 6, none⟩ (.bool false)).drew (some eb) := World.grownBy.trans (grown_set W3 ⟨eb, 6, none⟩ _) (grown_below (below_drew1 (Below.refl _ _)) _)
                  have hE4 : Aside0 ((W3.setCell ⟨eb, 6, none⟩ (.bool false)).drew.heap[eb]? = some (.cells (effC ⟨k, 0, 0, 0, [], 0, false⟩ (.slice none 0 0)) 27 (0, 0))) := ⟨blk_put hE3.out 6 _ rfl⟩
                  have hL4 := Aside0.mk (hL3.out.grown hgr heb.out)
                  have hkb4 := Aside0.mk ((hgr.block kb (blk_lt hkb3.out) (fun e => hkbe.out (Option.some.inj e))).trans hkb3.out)
                  clear hL3 hkb3 hE3 g0 g1 g2 g3 g4 g5 g6 j0 j1 j2 j3 j4 j5 j6 hgr s1 k1
                  generalize (W3.setCell ⟨eb, 6, none⟩ (.bool false)).drew = W4 at *
                  have k2 : W4.cell? ⟨kb, 2, none⟩ = some (.int .i64 (kMore k : Nat)) := blk_cell hkb4.out 2
                  have k4 : W4.cell? ⟨kb, 4, none⟩ = some (kRd q k) := blk_cell hkb4.out 4
                  generalize hmk : kMore k = mk at *
                  have hmkA := Aside0.mk hmk
                  clear hmk
                  by_cases hlen : (r1 :: r'').length = mk
                  · have hleq : (((m - 1 : Nat) : Int) == (mk : Int)) = true := by have := hmA.out; simp only [List.length_cons] at *; simp; omega
                    have hRW : RdW w W4 eb q (w.heap.size + 1) 2 (r1 :: r'') ⟨k, 0, 0, 0, [], 0, false⟩ := ⟨HT, hL4.out.b, hE4.out, by have := heb.out; omega, rfl, fun j y hj => ?_, blk_lt hL4.out.s, by have := heb.out; omega, hL4.out.q1, by have := heb.out; omega, fun y hy => hsz.out y (by simp [hy])⟩
                    · have hRA := Aside0.mk hRW
                      have hlenA := Aside0.mk hlen
                      clear hRW
                      generalize hfr : kRd q k = fr at *
                      have hk4 := kWent_lt hwt hlt
                      have hcs := kRd_cases q k hlt fr hfr
                      clear hfr hlen
                      rcases hcs with ⟨rfl, rfl⟩ | ⟨rfl, rfl⟩ | ⟨rfl, rfl⟩ | ⟨rfl, rfl⟩ | ⟨rfl, rfl⟩ | ⟨rfl, rfl⟩ | ⟨rfl, rfl⟩
                      · obtain rfl : mk = 3 := hmkA.out.symm
                        have hl2 : m - 1 = 3 := by have := hlenA.out; have := hmA.out; simp only [List.length_cons] at *; omega
                        have HLN : (r1 :: r'').length = 3 := by have := hmA.out; simp only [List.length_cons] at *; omega
                        generalize m - 1 = ml at *
                        subst hl2
                        go_wp2_with (fail)
                        refine (rd_attrs 0 (by omega) HLN _ (by omega) hRA.out).mono ?_
                        rintro e w5 ⟨v', rfl, hE5, _, hR5, hg5⟩
                        have hL5 := Aside0.mk ((hL4.out).grown hg5 heb.out)
                        obtain ⟨A', c', rfl⟩ := Kd.R_slice hR5
                        have hE5A := Aside0.mk hE5
                        have hR5A := Aside0.mk hR5
                        generalize hbb : (rdK 0 (r1 :: r'') ⟨0, 0, 0, 0, [], 0, false⟩).1 = bb at *
                        generalize hXX : (rdK 0 (r1 :: r'') ⟨0, 0, 0, 0, [], 0, false⟩).2 = X at *
                        have hbA := Aside0.mk hbb
                        have hXA := Aside0.mk hXX
                        clear hE5 hR5 hg5 hbb hXX
                        cases bb
                        · go_wp2_with (fail)
                          go_roundw
                          case rel => exact ⟨0 + 1, by go_num, ⟨by omega⟩, ⟨SoFar.fell hwA.out (by rw [hwA.out]; exact ((readW_at hlt _).trans (hbodyA.out _)).trans (fin_bad hbA.out))⟩, ⟨hL5.out⟩⟩
                          case measure => first | (simp [intOf]; done) | (simp [intOf]; omega)
                        · obtain ⟨⟨c0, c1, c2, c3, c4, c5, c6⟩, f0, f1, f2, f3, f4, f5, f6⟩ := eff_cells hL5.out.r
                          obtain ⟨⟨e0, e1, e2, e3, e4, e5, e6⟩, _⟩ := eff_cells hE5A.out
                          have hyes : readW w0 (r0 :: r1 :: r'') = some X := by rw [hwA.out]; exact ((readW_at hlt _).trans (hbodyA.out _)).trans (fin_ok hlenA.out hbA.out hXA.out)
                          go_wp2_with (fail)
                          refine bodyPost_ret (results_ct rfl _ _ w.heap.size 27 (effC X (.slice A' X.d.length c')) (0, 0) _ rfl (by exact blk7 hL5.out.r _ _ _ _ _ _ _) Tryz.underlying27 rfl (by kernel_rfl)) rfl ?_
                          unfold readR
                          rw [hyes]
                          refine ⟨_, rfl, ?_, set7_below hL5.out.b (Nat.le_refl _) _ _ _ _ _ _ _⟩
                          exact set7_R hR5A.out _ _ _ _ _ _ _
                      · obtain rfl : mk = 3 := hmkA.out.symm
                        have hl2 : m - 1 = 3 := by have := hlenA.out; have := hmA.out; simp only [List.length_cons] at *; omega
                        have HLN : (r1 :: r'').length = 3 := by have := hmA.out; simp only [List.length_cons] at *; omega
                        generalize m - 1 = ml at *
                        subst hl2
                        go_wp2_with (fail)
                        refine (rd_attrs 1 (by omega) HLN _ (by omega) hRA.out).mono ?_
                        rintro e w5 ⟨v', rfl, hE5, _, hR5, hg5⟩
                        have hL5 := Aside0.mk ((hL4.out).grown hg5 heb.out)
                        obtain ⟨A', c', rfl⟩ := Kd.R_slice hR5
                        have hE5A := Aside0.mk hE5
                        have hR5A := Aside0.mk hR5
                        generalize hbb : (rdK 1 (r1 :: r'') ⟨1, 0, 0, 0, [], 0, false⟩).1 = bb at *
                        generalize hXX : (rdK 1 (r1 :: r'') ⟨1, 0, 0, 0, [], 0, false⟩).2 = X at *
                        have hbA := Aside0.mk hbb
                        have hXA := Aside0.mk hXX
                        clear hE5 hR5 hg5 hbb hXX
                        cases bb
                        · go_wp2_with (fail)
                          go_roundw
                          case rel => exact ⟨1 + 1, by go_num, ⟨by omega⟩, ⟨SoFar.fell hwA.out (by rw [hwA.out]; exact ((readW_at hlt _).trans (hbodyA.out _)).trans (fin_bad hbA.out))⟩, ⟨hL5.out⟩⟩
                          case measure => first | (simp [intOf]; done) | (simp [intOf]; omega)
                        · obtain ⟨⟨c0, c1, c2, c3, c4, c5, c6⟩, f0, f1, f2, f3, f4, f5, f6⟩ := eff_cells hL5.out.r
                          obtain ⟨⟨e0, e1, e2, e3, e4, e5, e6⟩, _⟩ := eff_cells hE5A.out
                          have hyes : readW w0 (r0 :: r1 :: r'') = some X := by rw [hwA.out]; exact ((readW_at hlt _).trans (hbodyA.out _)).trans (fin_ok hlenA.out hbA.out hXA.out)
                          go_wp2_with (fail)
                          refine bodyPost_ret (results_ct rfl _ _ w.heap.size 27 (effC X (.slice A' X.d.length c')) (0, 0) _ rfl (by exact blk7 hL5.out.r _ _ _ _ _ _ _) Tryz.underlying27 rfl (by kernel_rfl)) rfl ?_
                          unfold readR
                          rw [hyes]
                          refine ⟨_, rfl, ?_, set7_below hL5.out.b (Nat.le_refl _) _ _ _ _ _ _ _⟩
                          exact set7_R hR5A.out _ _ _ _ _ _ _
                      · obtain rfl : mk = 2 := hmkA.out.symm
                        have hl2 : m - 1 = 2 := by have := hlenA.out; have := hmA.out; simp only [List.length_cons] at *; omega
                        have HLN : (r1 :: r'').length = 2 := by have := hmA.out; simp only [List.length_cons] at *; omega
                        generalize m - 1 = ml at *
                        subst hl2
                        go_wp2_with (fail)
                        refine (rd_bytes HLN _ (by omega) hRA.out).mono ?_
                        rintro e w5 ⟨v', rfl, hE5, _, hR5, hg5⟩
                        have hL5 := Aside0.mk ((hL4.out).grown hg5 heb.out)
                        obtain ⟨A', c', rfl⟩ := Kd.R_slice hR5
                        have hE5A := Aside0.mk hE5
                        have hR5A := Aside0.mk hR5
                        generalize hbb : (rdK 2 (r1 :: r'') ⟨2, 0, 0, 0, [], 0, false⟩).1 = bb at *
                        generalize hXX : (rdK 2 (r1 :: r'') ⟨2, 0, 0, 0, [], 0, false⟩).2 = X at *
                        have hbA := Aside0.mk hbb
                        have hXA := Aside0.mk hXX
                        clear hE5 hR5 hg5 hbb hXX
                        cases bb
                        · go_wp2_with (fail)
                          go_roundw
                          case rel => exact ⟨2 + 1, by go_num, ⟨by omega⟩, ⟨SoFar.fell hwA.out (by rw [hwA.out]; exact ((readW_at hlt _).trans (hbodyA.out _)).trans (fin_bad hbA.out))⟩, ⟨hL5.out⟩⟩
                          case measure => first | (simp [intOf]; done) | (simp [intOf]; omega)
                        · obtain ⟨⟨c0, c1, c2, c3, c4, c5, c6⟩, f0, f1, f2, f3, f4, f5, f6⟩ := eff_cells hL5.out.r
                          obtain ⟨⟨e0, e1, e2, e3, e4, e5, e6⟩, _⟩ := eff_cells hE5A.out
                          have hyes : readW w0 (r0 :: r1 :: r'') = some X := by rw [hwA.out]; exact ((readW_at hlt _).trans (hbodyA.out _)).trans (fin_ok hlenA.out hbA.out hXA.out)
                          go_wp2_with (fail)
                          refine bodyPost_ret (results_ct rfl _ _ w.heap.size 27 (effC X (.slice A' X.d.length c')) (0, 0) _ rfl (by exact blk7 hL5.out.r _ _ _ _ _ _ _) Tryz.underlying27 rfl (by kernel_rfl)) rfl ?_
                          unfold readR
                          rw [hyes]
                          refine ⟨_, rfl, ?_, set7_below hL5.out.b (Nat.le_refl _) _ _ _ _ _ _ _⟩
                          exact set7_R hR5A.out _ _ _ _ _ _ _
                      · obtain rfl : mk = 1 := hmkA.out.symm
                        have hl2 : m - 1 = 1 := by have := hlenA.out; have := hmA.out; simp only [List.length_cons] at *; omega
                        have HLN : (r1 :: r'').length = 1 := by have := hmA.out; simp only [List.length_cons] at *; omega
                        generalize m - 1 = ml at *
                        subst hl2
                        go_wp2_with (fail)
                        refine (rd_count 3 (by omega) HLN _ hRA.out).mono ?_
                        rintro e w5 ⟨v', rfl, hE5, _, hR5, hg5⟩
                        have hL5 := Aside0.mk ((hL4.out).grown hg5 heb.out)
                        obtain ⟨A', c', rfl⟩ := Kd.R_slice hR5
                        have hE5A := Aside0.mk hE5
                        have hR5A := Aside0.mk hR5
                        generalize hbb : (rdK 3 (r1 :: r'') ⟨3, 0, 0, 0, [], 0, false⟩).1 = bb at *
                        generalize hXX : (rdK 3 (r1 :: r'') ⟨3, 0, 0, 0, [], 0, false⟩).2 = X at *
                        have hbA := Aside0.mk hbb
                        have hXA := Aside0.mk hXX
                        clear hE5 hR5 hg5 hbb hXX
                        cases bb
                        · go_wp2_with (fail)
                          go_roundw
                          case rel => exact ⟨3 + 1, by go_num, ⟨by omega⟩, ⟨SoFar.fell hwA.out (by rw [hwA.out]; exact ((readW_at hlt _).trans (hbodyA.out _)).trans (fin_bad hbA.out))⟩, ⟨hL5.out⟩⟩
                          case measure => first | (simp [intOf]; done) | (simp [intOf]; omega)
                        · obtain ⟨⟨c0, c1, c2, c3, c4, c5, c6⟩, f0, f1, f2, f3, f4, f5, f6⟩ := eff_cells hL5.out.r
                          obtain ⟨⟨e0, e1, e2, e3, e4, e5, e6⟩, _⟩ := eff_cells hE5A.out
                          have hyes : readW w0 (r0 :: r1 :: r'') = some X := by rw [hwA.out]; exact ((readW_at hlt _).trans (hbodyA.out _)).trans (fin_ok hlenA.out hbA.out hXA.out)
                          go_wp2_with (fail)
                          refine bodyPost_ret (results_ct rfl _ _ w.heap.size 27 (effC X (.slice A' X.d.length c')) (0, 0) _ rfl (by exact blk7 hL5.out.r _ _ _ _ _ _ _) Tryz.underlying27 rfl (by kernel_rfl)) rfl ?_
                          unfold readR
                          rw [hyes]
                          refine ⟨_, rfl, ?_, set7_below hL5.out.b (Nat.le_refl _) _ _ _ _ _ _ _⟩
                          exact set7_R hR5A.out _ _ _ _ _ _ _
                      · exact absurd hk4 (by omega)
                      · exact absurd hk4 (by omega)
                      · exact absurd hk4 (by omega)
                    · have : (2 : Nat) + j = j + 2 := by omega
                      rw [this]
                      refine (blk_cell hL4.out.s (j + 2)).trans ?_
                      have h9 := map_cell hj
                      simpa using h9
                  · have hleq : (((m - 1 : Nat) : Int) == (mk : Int)) = false := by have := hmA.out; simp only [List.length_cons] at *; simp; omega
                    go_wp2_with (fail)
                    go_roundw
                    case rel => exact ⟨k + 1, by go_num, ⟨by omega⟩, ⟨SoFar.fell hwA.out (by rw [hwA.out]; exact (readW_at hlt _).trans ((hbodyA.out _).trans (fin_len (by rw [hmkA.out]; exact hlen))))⟩, ⟨hL4.out⟩⟩
                    case measure => first | (simp [intOf]; done) | (simp [intOf]; omega)
              · have ho1 : (r0.toList == [111, 107]) = false := by
                  rw [show ([111, 107] : List UInt8) = okW.toList from by decide +kernel, ba_beq, decide_eq_false hok]
                have ho2 : (r0.toList == [102, 97, 105, 108]) = false := by
                  rw [show ([102, 97, 105, 108] : List UInt8) = failW.toList from by decide +kernel, ba_beq, decide_eq_false hfa]
                obtain ⟨⟨c0, c1, c2, c3, c4, c5, c6⟩, f0, f1, f2, f3, f4, f5, f6⟩ := eff_cells hL3.out.r
                have hno : readW w0 (r0 :: r') = none := by rw [hwA.out]; exact (readW_at hlt _).trans (body_bad _ hwt hok hfa)
                go_wp2_with (fail)
                refine bodyPost_ret (results_ct rfl _ _ w.heap.size 27 (effC Eff.zero (.slice none 0 0)) (0, 0) _ rfl (by exact blk7 hL3.out.r _ _ _ _ _ _ _) Tryz.underlying27 rfl (by kernel_rfl)) rfl ?_
                unfold readR
                rw [hno]
                exact ⟨_, rfl, Kd.R_nil _ _ _ _ _, set7_below hL3.out.b (Nat.le_refl _) _ _ _ _ _ _ _⟩
        -- MARK B
      · have hw' : (w0.toList == (kWord k).toList) = false := by rw [ba_beq, decide_eq_false hw]
        have hsn := Aside0.mk (hsf.out.next hw)
        clear hw hsf
        generalize kWord k = wk at *
        have hn0 : 0 < n := by have := hnA.out; omega
        go_wp2_with (fail)
        go_quiet (fail)
        go_wp2_with (fail)
        go_roundw
        case rel => exact ⟨k + 1, by go_num, ⟨by omega⟩, hsn, ⟨hL1.out.below (pw_below_drewN (Below.refl _ _) _)⟩⟩
        case measure => simp [intOf]; omega
    · have hk7 : k = 7 := by have := hk.out; omega
      subst hk7
      have hno := hsf.out.done
      have hLA := Aside0.mk hL.out
      clear hL hsf hk
      obtain ⟨⟨c0, c1, c2, c3, c4, c5, c6⟩, f0, f1, f2, f3, f4, f5, f6⟩ := eff_cells hLA.out.r
      go_wp2_with (fail)
      refine bodyPost_ret (results_ct rfl _ _ w.heap.size 27 (effC Eff.zero (.slice none 0 0)) (0, 0) _ rfl (by exact blk7 hLA.out.r _ _ _ _ _ _ _) Tryz.underlying27 rfl (by kernel_rfl)) rfl ?_
      unfold readR
      rw [hno]
      exact ⟨_, rfl, Kd.R_nil _ _ _ _ _, set7_below hLA.out.b (Nat.le_refl _) _ _ _ _ _ _ _⟩
end Go.Proofs.YtbiogabekhegaaaGreatDoor.Hand

namespace Go.Proofs.YtbiogabekhegaaaGreatDoor.Hand
open Go.RowKit Go.Proofs.YtbiogabekhegaaaGreatDoorW.PrintWords Go.Proofs.YtbiogabekhegaaaGreatDoorW.PrintLast
set_option linter.unusedVariables false
set_option linter.unusedSimpArgs false
def tWrote : ByteArray := ⟨#[119, 114, 111, 116, 101, 32, 111, 107, 32, 48, 100, 48, 97, 32, 50]⟩
def tRead : ByteArray := ⟨#[114, 101, 97, 100, 32, 102, 97, 105, 108, 32, 48, 53]⟩
theorem pieces_wrote : pieces 32 tWrote = [⟨#[119, 114, 111, 116, 101]⟩, ⟨#[111, 107]⟩, ⟨#[48, 100, 48, 97]⟩, ⟨#[50]⟩] := by decide +kernel
theorem pieces_read : pieces 32 tRead = [⟨#[114, 101, 97, 100]⟩, ⟨#[102, 97, 105, 108]⟩, ⟨#[48, 53]⟩] := by decide +kernel
theorem num2 : numOk ⟨#[50]⟩ = true ∧ atoiV [50] = 2 := by
  constructor
  · decide +kernel
  · decide +kernel
theorem num05 : numOk ⟨#[48, 53]⟩ = false := by decide +kernel
theorem told_0d0a : toldOk [48, 100, 48, 97] = true ∧ toldL [48, 100, 48, 97] = [13, 10] := by
  constructor
  · decide +kernel
  · decide +kernel
theorem read_wrote : readR ⟨#[119, 114, 111, 116, 101]⟩ [⟨#[111, 107]⟩, ⟨#[48, 100, 48, 97]⟩, ⟨#[50]⟩] = (⟨2, 0, 0, 0, [13, 10], 2, true⟩, 0) := by
  unfold readR readW
  rw [show kindOf ⟨#[119, 114, 111, 116, 101]⟩ = some 2 from kindOf_at 2 (by omega)]
  show (match bodyK 2 [⟨#[111, 107]⟩, ⟨#[48, 100, 48, 97]⟩, ⟨#[50]⟩] with | some x => (x, (0 : Int)) | none => (Eff.zero, 8)) = _
  rw [show bodyK 2 [⟨#[111, 107]⟩, ⟨#[48, 100, 48, 97]⟩, ⟨#[50]⟩] = finK 2 [⟨#[48, 100, 48, 97]⟩, ⟨#[50]⟩] ⟨((2 : Nat) : Int), 0, 0, 0, [], 0, true⟩ from body_went (r0 := ⟨#[111, 107]⟩) _ rfl (.inl rfl) (by decide +kernel)]
  rw [fin_ok (k := 2) (r := [⟨#[48, 100, 48, 97]⟩, ⟨#[50]⟩]) (X := ⟨2, 0, 0, 0, [13, 10], 2, true⟩) rfl ?_ ?_]
  · show (toldOk [48, 100, 48, 97] && numOk ⟨#[50]⟩) = true
    rw [told_0d0a.1, num2.1]
    rfl
  · show (⟨_, _, _, _, toldL [48, 100, 48, 97], if toldOk [48, 100, 48, 97] = true then atoiV [50] else 0, _⟩ : Eff) = _
    rw [told_0d0a.1, told_0d0a.2, if_pos rfl, num2.2]
    rfl
theorem read_read : readR ⟨#[114, 101, 97, 100]⟩ [⟨#[102, 97, 105, 108]⟩, ⟨#[48, 53]⟩] = (Eff.zero, 8) := by
  unfold readR readW
  rw [show kindOf ⟨#[114, 101, 97, 100]⟩ = some 3 from kindOf_at 3 (by omega)]
  show (match bodyK 3 [⟨#[102, 97, 105, 108]⟩, ⟨#[48, 53]⟩] with | some x => (x, (0 : Int)) | none => (Eff.zero, 8)) = _
  rw [show bodyK 3 [⟨#[102, 97, 105, 108]⟩, ⟨#[48, 53]⟩] = finK 3 [⟨#[48, 53]⟩] ⟨((3 : Nat) : Int), 0, 0, 0, [], 0, false⟩ from body_went (r0 := ⟨#[102, 97, 105, 108]⟩) _ rfl (.inr rfl) (by decide +kernel)]
  rw [fin_bad (k := 3) (r := [⟨#[48, 53]⟩])]
  exact num05
set_option maxHeartbeats 8000000 in
set_option maxRecDepth 100000 in
theorem alive_ok (w : World) (HT : TabA w) : Calls Tryz.prog 8 #[] w fun e w' => e = .returned (.bool true) ∧ Below w.heap.size w w' := by
  have H1 := read_core tWrote _ _ (by decide) pieces_wrote w HT
  rw [read_wrote] at H1
  have H2 := fun W hT => read_core tRead _ _ (by decide) pieces_read W hT
  rw [read_read] at H2
  unfold tWrote at H1
  unfold tRead at H2
  unfold RdPost effC Eff.zero at H2
  unfold RdPost effC at H1
  go_enter Tryz.func8, Tryz.ntmps8
  go_wp2_with (fail)
  refine H1.mono ?_
  rintro e w1 ⟨v, rfl, hR, hb⟩
  obtain ⟨A, c, rfl⟩ := Kd.R_slice hR
  have hB1 : Below w.heap.size w (w1.alloc (.cells #[.int .i64 2, .int .u32 0, .int .u8 0, .int .u8 0, .slice A 2 c, .int .i64 2, .bool true] 27)) := hb.alloc hb.size _
  have H2' := H2 _ (HT.below hB1)
  have hE := heap_alloc_new w1 (.cells #[.int .i64 2, .int .u32 0, .int .u8 0, .int .u8 0, .slice A 2 c, .int .i64 2, .bool true] 27)
  have hRA := Aside0.mk (Kd.R_below hR ((Below.refl _ w1).alloc (Nat.le_refl _) (.cells #[.int .i64 2, .int .u32 0, .int .u8 0, .int .u8 0, .slice A 2 c, .int .i64 2, .bool true] 27)))
  have hEA := Aside0.mk hE
  have hBA := Aside0.mk hB1
  clear H1 H2 hR hE hB1
  have z1 : ([13, 10] : List Int).length = 2 := rfl
  rw [z1]
  go_wp2_with (fail)
  refine H2'.mono ?_
  rintro e w2 ⟨v2, rfl, hR2, hb2⟩
  obtain ⟨A2, c2, rfl⟩ := Kd.R_slice hR2
  have hb3 := hb2.alloc hb2.size (.cells #[.int .i64 0, .int .u32 0, .int .u8 0, .int .u8 0, .slice A2 0 c2, .int .i64 0, .bool false] 27)
  have hE3 := (hb3.block _ (blk_lt hEA.out)).trans hEA.out
  have hC3 := (Kd.R_reads' (Kd.R_below hRA.out hb3)).2.2
  have hB3 := Aside0.mk (hBA.out.trans (hb3.mono hBA.out.size))
  have hcv := Kd.C_string (P := Tryz.prog) (c := c) Tryz.underlying22 Tryz.underlying5 Tryz.underlying9 hC3
  have hsn : strOfNums [13, 10] = ⟨#[13, 10]⟩ := by decide +kernel
  rw [hsn] at hcv
  have z1 : ([13, 10] : List Int).length = 2 := rfl
  rw [z1] at hcv
  have z2 : ([] : List Int).length = 0 := rfl
  rw [z2]
  clear H2' hRA hEA hBA hb3 hC3 hb2 hR2 hsn
  go_upto_region 3 with (fail)
  generalize w2.alloc (.cells #[.int .i64 0, .int .u32 0, .int .u8 0, .int .u8 0, .slice A2 0 c2, .int .i64 0, .bool false] 27) = W at *
  have c0 := (blk_cell hE3 0).trans rfl
  have c4 := (blk_cell hE3 4).trans rfl
  have c5 := (blk_cell hE3 5).trans rfl
  have c6 := (blk_cell hE3 6).trans rfl
  clear hE3
  have ht : (([13, 10] : List UInt8) == [13, 10]) = true := rfl
  go_wp2_with (fail)
  go_ret
  exact ⟨rfl, hB3.out⟩
end Go.Proofs.YtbiogabekhegaaaGreatDoor.Hand
