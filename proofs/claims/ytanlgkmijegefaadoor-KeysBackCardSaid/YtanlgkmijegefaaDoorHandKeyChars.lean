/- The contract of keys.chars: a new map that reads as the characters that are keys, in whatever order it is filled. -/
import Derived.Test.YtanlgkmijegefaaDoorHandRegion
namespace Go.Proofs.YtanlgkmijegefaaDoor.Hand
open Go.RowKit Go.Maps Go.WideShapes Go.WideMaps Go.ChangeMaps Go.Proofs.YtanlgkmijegefaaDoorW.PrintWords Go.Proofs.YtanlgkmijegefaaDoorW.PrintLast
set_option linter.unusedVariables false
set_option linter.unusedSimpArgs false

/-- Each insertion: its operation's number, its key, its element. -/
def insL : List (Nat × Int × Int) := [(2, 13, 1), (4, 10, 1), (6, 8, 2), (7, 127, 2), (9, 2, 4), (11, 6, 5), (13, 1, 6), (15, 5, 7), (17, 21, 8), (19, 11, 9), (21, 12, 10), (23, 3, 11), (25, 4, 12)]
/-- Each call: its operation's number, its slot, what it answers. -/
def callL : List (Nat × Nat × Int) := [(1, 2, 13), (3, 3, 10), (5, 4, 8), (8, 5, 2), (10, 6, 6), (12, 7, 1), (14, 8, 5), (16, 9, 21), (18, 10, 11), (20, 11, 12), (22, 12, 3), (24, 13, 4)]
/-- The characters that are keys. -/
def charKind (c : Int) : Option Int := (insL.find? (fun t => t.2.1 == c)).map (·.2.2)

theorem intKey : Keyed Tryd.prog 3 := int_keyed Tryd.underlying3

theorem ctrl_any (c r : Int) (w : World) (hb : Go.bits .and .i32 c 31 = r) (hr : wrap64 r = r) : Calls Tryd.prog 42 #[.int .i32 c] w fun e w' => e = .returned (.int .i64 r) ∧ w = w' := by
  go_enter Tryd.func42, Tryd.ntmps42
  go_wp2
  go_ret
  exact ⟨by simp [hb, hr], rfl⟩

theorem getD_set (l : Array Bool) (i j : Nat) (hi : i < l.size) : (l.setIfInBounds i true).getD j false = if j = i then true else l.getD j false := by
  rw [Array.getD_eq_getD_getElem?, Array.getElem?_setIfInBounds]
  by_cases h : i = j
  · rw [if_pos h, if_pos (h ▸ hi), if_pos h.symm]; rfl
  · rw [if_neg h, if_neg (fun x => h x.symm), Array.getD_eq_getD_getElem?]
theorem toCome_lt (l : Array Bool) (i : Nat) (hi : i < l.size) (h : l.getD i false = false) : toCome (l.setIfInBounds i true) + 1 = toCome l := by
  unfold toCome
  rw [Array.toList_setIfInBounds]
  refine toCome_set l.toList i ?_
  rw [Array.getD_eq_getD_getElem?, Array.getElem?_eq_getElem hi] at h
  rw [List.getElem?_eq_getElem (by simpa using hi)]
  simpa using h

structure Inv (w0 : World) (l : Array Bool) (a : Act) (w : World) : Prop where
  sz : l.size = 28
  ts : a.tmps.size = 15
  df : a.defers = []
  bel : Below w0.heap.size w0 w
  cs : ∀ t ∈ callL, l.getD t.1 false = true → a.eval (.tmp t.2.1) = .int .i64 t.2.2
  mp : l.getD 0 false = true → ∃ (B n : Nat) (D : DataW Unit), w0.heap.size ≤ B ∧ a.eval (.tmp 1) = .map (some B) ∧ w.ownsMap Tryd.prog 3 (plainElem Tryd.prog 3) B n D ∧ n + toCome l ≤ 28 ∧
    (∀ k, Maps.has D k = insL.any (fun t => l.getD t.1 false && (Lit.int .i64 t.2.1).sameKey k)) ∧
    (∀ t ∈ insL, l.getD t.1 false = true → ∀ z, D.atKey (.int .i64 t.2.1) z = .lit (.int .i64 t.2.2)) ∧
    (l.getD 26 false = true → a.eval (.tmp 14) = .map (some B) ∧ ∀ t ∈ insL, l.getD t.1 false = true) ∧ (l.getD 27 false = true → a.eval (.tmp 0) = .map (some B) ∧ l.getD 26 false = true)
  no : l.getD 0 false = false → ∀ t ∈ insL, l.getD t.1 false = false

/-- One insertion more. -/
theorem Inv.insert {w0 : World} {l : Array Bool} {a : Act} {w : World} (h : Inv w0 l a w) (i : Nat) (k v : Int) (hi : i < 26) (hl : l.getD i false = false) (h0 : l.getD 0 false = true) (hc : ∀ t ∈ callL, t.1 ≠ i)
    (hin : (i, k, v) ∈ insL) (hap : ∀ t ∈ insL, t.1 ≠ i → t.2.1 ≠ k) (hsame : ∀ t ∈ insL, t.1 = i → t = (i, k, v)) (hi0 : i ≠ 0) (h26 : l.getD 26 false = false) (wk : (Lit.int .i64 k).wf = true) (wv : (Lit.int .i64 v).wf = true)
    {o : Oper} (hd : o.dst = none) (x : Operand) (hop : o.op = .insert 61 (.tmp 1) x (.const (.int .i64 v))) (hx : a.eval x = .int .i64 k) {Q : Exit → Act → World → Prop} :
    Oper.wp Tryd.prog o a w (fun a' w' => Inv w0 (l.setIfInBounds i true) a' w') Q := by
  obtain ⟨B, n, D, hB, h1, hown, hn, hhas, hat, h26', h27'⟩ := h.mp h0
  have hlt : i < l.size := by rw [h.sz]; omega
  have htc := toCome_lt l i hlt hl
  obtain ⟨w', hrun, r1, r2⟩ := hown.update intKey Tryd.underlying61 (by unfold maxLen; omega) (keyOf_int_mk Tryd.underlying3 wk) (plainElem_int Tryd.underlying3 wv)
  have hr : (execOp a.eval o).run Tryd.prog w = .ok .skip w' := by
    unfold execOp
    simp only [hop]
    rw [h1, hx, show a.eval (.const (.int .i64 v)) = .int .i64 v from rfl]
    simp [hrun, Result.andThen]
  refine wp_skip hr ?_
  rw [hd]
  show Inv w0 (l.setIfInBounds i true) a w'
  have hD : IsMap D := hown.isMap
  refine ⟨by simpa using h.sz, h.ts, h.df, h.bel.grown r2 (h.bel.size) (fun j hj => by cases hj; exact hB), fun t ht hg => ?_, fun _ => ?_, fun hf => ?_⟩
  · rw [getD_set l i _ hlt, if_neg (hc t ht)] at hg
    exact h.cs t ht hg
  · refine ⟨B, n + 1, _, hB, h1, r1, by omega, fun kk => ?_, fun t ht hg z => ?_, fun hg => ?_, fun hg => ?_⟩
    · by_cases e : kk = .int .i64 k
      · subst e
        rw [has_put_same hD (show WideAt.IsKeyLit (.int .i64 k) from trivial)]
        symm
        rw [List.any_eq_true]
        refine ⟨_, hin, ?_⟩
        rw [getD_set l i _ hlt, if_pos rfl]
        simp [Lit.sameKey]
      · rw [has_put_other e, hhas kk]
        rw [Bool.eq_iff_iff, List.any_eq_true, List.any_eq_true]
        constructor
        · rintro ⟨t, ht, hh⟩
          refine ⟨t, ht, ?_⟩
          rw [getD_set l i _ hlt]
          by_cases e2 : t.1 = i
          · have := hsame t ht e2
            subst this
            rw [hl] at hh
            simp at hh
          · rw [if_neg e2]
            exact hh
        · rintro ⟨t, ht, hh⟩
          refine ⟨t, ht, ?_⟩
          rw [getD_set l i _ hlt] at hh
          by_cases e2 : t.1 = i
          · have := hsame t ht e2
            subst this
            simp only [Bool.and_eq_true] at hh
            exact absurd (WideAt.sameKey_eq hh.2).symm e
          · rw [if_neg e2] at hh
            exact hh
    · rw [getD_set l i _ hlt] at hg
      by_cases e : t.1 = i
      · have := hsame t ht e
        subst this
        exact atKey_put_same hD (show WideAt.IsKeyLit (.int .i64 k) from trivial) _ _
      · rw [if_neg e] at hg
        rw [atKey_put_other (fun x => hap t ht e (by injection x))]
        exact hat t ht hg z
    · rw [getD_set l i _ hlt, if_neg (by omega), h26] at hg
      cases hg
    · rw [getD_set l i _ hlt, if_neg (by omega)] at hg
      have := (h27' hg).2
      rw [h26] at this
      cases this
  · rw [getD_set l i _ hlt, if_neg (fun x => hi0 x.symm), h0] at hf
    cases hf

/-- Slots that are written change no more than themselves: what the invariant says of the others stays. -/
theorem Inv.put {w0 : World} {l : Array Bool} {a : Act} {w w' : World} (h : Inv w0 l a w) (hb : Below w0.heap.size w0 w') (hh : ∀ k, w0.heap.size ≤ k → k < w.heap.size → w'.heap[k]? = w.heap[k]?) (i d : Nat) (v : Value) (hi : i < 28) (hl : l.getD i false = false) (hd : d < 15) (hd1 : d ≠ 1)
    (hi0 : i ≠ 0) (hins : ∀ t ∈ insL, t.1 ≠ i) (hcall : ∀ t ∈ callL, t.1 ≠ i → t.2.1 ≠ d) (hself : ∀ t ∈ callL, t.1 = i → v = .int .i64 t.2.2 ∧ t.2.1 = d)
    (h14 : d = 14 ∨ l.getD 26 false = true → i = 26 ∨ i = 27) (h26 : i = 26 → d = 14 ∧ v = a.eval (.tmp 1) ∧ (∀ t ∈ insL, l.getD t.1 false = true) ∧ l.getD 0 false = true) (h27 : i = 27 → d = 0 ∧ v = a.eval (.tmp 14) ∧ l.getD 26 false = true)
    (hd0 : d = 0 → i = 27) (h27' : l.getD 27 false = true → False) : Inv w0 (l.setIfInBounds i true) (a.put (some d) v) w' := by
  have hlt : i < l.size := by rw [h.sz]; exact hi
  have htc := toCome_lt l i hlt hl
  have hdt : d < a.tmps.size := by rw [h.ts]; exact hd
  refine ⟨by simpa using h.sz, by rw [size_put]; exact h.ts, by rw [defers_put]; exact h.df, hb, fun t ht hg => ?_, fun hg0 => ?_, fun hf => ?_⟩
  · rw [eval_put a d _ v hdt]
    rw [getD_set l i _ hlt] at hg
    by_cases e : t.1 = i
    · obtain ⟨e1, e2⟩ := hself t ht e
      rw [if_pos e2, e1]
    · rw [if_neg e] at hg
      rw [if_neg (hcall t ht e)]
      exact h.cs t ht hg
  · rw [getD_set l i _ hlt, if_neg (fun x => hi0 x.symm)] at hg0
    obtain ⟨B, n, D, hB, e1, hown, hn, hhas, hat, q26, q27⟩ := h.mp hg0
    have hown' : w'.ownsMap Tryd.prog 3 (plainElem Tryd.prog 3) B n D := by
      obtain ⟨es, clock, hbk, r⟩ := hown
      have hlt' : B < w.heap.size := (Array.getElem?_eq_some_iff.1 hbk).1
      exact ⟨es, clock, (hh B hB hlt').trans hbk, r⟩
    have hk : ∀ t ∈ insL, (l.setIfInBounds i true).getD t.1 false = l.getD t.1 false := fun t ht => by rw [getD_set l i _ hlt, if_neg (hins t ht)]
    refine ⟨B, n, D, hB, ?_, hown', by omega, fun k => ?_, fun t ht hg z => ?_, fun hg => ?_, fun hg => ?_⟩
    · rw [eval_put a d _ v hdt, if_neg (fun x => hd1 x.symm)]; exact e1
    · rw [hhas k, Bool.eq_iff_iff, List.any_eq_true, List.any_eq_true]
      constructor
      · rintro ⟨t, ht, hx⟩; exact ⟨t, ht, by rw [hk t ht]; exact hx⟩
      · rintro ⟨t, ht, hx⟩; exact ⟨t, ht, by rw [hk t ht] at hx; exact hx⟩
    · rw [hk t ht] at hg
      exact hat t ht hg z
    · rw [eval_put a d _ v hdt]
      rw [getD_set l i _ hlt] at hg
      by_cases e : i = 26
      · obtain ⟨x1, x2, x3, x4⟩ := h26 e
        rw [if_pos x1.symm, x2, e1]
        exact ⟨rfl, fun t ht => by rw [hk t ht]; exact x3 t ht⟩
      · rw [if_neg (fun x => e x.symm)] at hg
        obtain ⟨y1, y2⟩ := q26 hg
        have e27 : i = 27 := by
          rcases h14 (.inr hg) with x | x
          · exact absurd x e
          · exact x
        obtain ⟨x1, _, _⟩ := h27 e27
        rw [if_neg (by omega)]
        exact ⟨y1, fun t ht => by rw [hk t ht]; exact y2 t ht⟩
    · rw [eval_put a d _ v hdt]
      rw [getD_set l i _ hlt] at hg
      by_cases e : i = 27
      · obtain ⟨x1, x2, x3⟩ := h27 e
        rw [if_pos x1.symm, x2]
        refine ⟨(q26 x3).1, ?_⟩
        rw [getD_set l i _ hlt, if_neg (by omega)]
        exact x3
      · rw [if_neg (fun x => e x.symm)] at hg
        exact (h27' hg).elim
  · rw [getD_set l i _ hlt, if_neg (fun x => hi0 x.symm)] at hf
    intro t ht
    rw [getD_set l i _ hlt, if_neg (hins t ht)]
    exact h.no hf t ht

/-- The map is made. -/
theorem Inv.make {w0 : World} {l : Array Bool} {a : Act} {w : World} (h : Inv w0 l a w) (hl : l.getD 0 false = false) (h26 : l.getD 26 false = false) (h27 : l.getD 27 false = false) :
    Inv w0 (l.setIfInBounds 0 true) (a.put (some 1) (.map (some w.heap.size))) (w.alloc (.map #[] 0)) := by
  have hlt : 0 < l.size := by rw [h.sz]; decide
  have htc := toCome_lt l 0 hlt hl
  have hdt : 1 < a.tmps.size := by rw [h.ts]; decide
  have hno := h.no hl
  have hn0 : ∀ t ∈ insL, t.1 ≠ 0 := by decide
  have hc0 : ∀ t ∈ callL, t.1 ≠ 0 ∧ t.2.1 ≠ 1 := by decide
  refine ⟨by simpa using h.sz, by rw [size_put]; exact h.ts, by rw [defers_put]; exact h.df, h.bel.alloc h.bel.size _, fun t ht hg => ?_, fun _ => ?_, fun hf => ?_⟩
  · rw [getD_set l 0 _ hlt, if_neg (hc0 t ht).1] at hg
    rw [eval_put a 1 _ _ hdt, if_neg (hc0 t ht).2]
    exact h.cs t ht hg
  · have ht28 : toCome l ≤ 28 := by
      unfold toCome
      have := List.length_filter_le (fun b => !b) l.toList
      have := h.sz
      simp at *
      omega
    refine ⟨w.heap.size, 0, .map [], h.bel.size, by rw [eval_put a 1 _ _ hdt, if_pos rfl], World.ownsMap_made w _ _ _, by omega, fun k => ?_, fun t ht hg => ?_, fun hg => ?_, fun hg => ?_⟩
    · symm
      show _ = false
      rw [List.any_eq_false]
      intro t ht hx
      rw [getD_set l 0 _ hlt, if_neg (hn0 t ht), hno t ht] at hx
      simp at hx
    · rw [getD_set l 0 _ hlt, if_neg (hn0 t ht), hno t ht] at hg
      cases hg
    · rw [getD_set l 0 _ hlt, if_neg (by decide), h26] at hg
      cases hg
    · rw [getD_set l 0 _ hlt, if_neg (by decide), h27] at hg
      cases hg
  · rw [getD_set l 0 _ hlt, if_pos rfl] at hf
    cases hf

theorem getD_replicate (n j : Nat) : (Array.replicate n false).getD j false = false := by
  rw [Array.getD_eq_getD_getElem?, Array.getElem?_replicate]
  split <;> rfl

/-- Nothing is ready: everything has been carried out. -/
theorem all_of_ready {md : Region.Mode} {ops : Array Oper} {l : Array Bool} (hs : l.size = ops.size) (hr : Region.ready md ops l = []) (hd : ((List.range ops.size).all fun i => (ops[i]?.map (·.after.all fun e => !Region.binds md e || decide (e.on < i))).getD false) = true) :
    ∀ i, i < ops.size → l.getD i false = true := by
  intro i
  induction i using Nat.strongRecOn with
  | _ i ih =>
    intro hi
    cases hv : l.getD i false with
    | true => rfl
    | false =>
      exfalso
      have hlt : i < l.size := by omega
      have hm : i ∈ Region.ready md ops l := by
        unfold Region.ready
        simp only [List.mem_filter, List.mem_range, Bool.and_eq_true, Bool.not_eq_true']
        refine ⟨hi, ?_, ?_⟩
        · rw [Array.getD_eq_getD_getElem?, Array.getElem?_eq_getElem hlt] at hv ⊢
          exact hv
        · have h1 := List.all_eq_true.1 hd i (List.mem_range.2 hi)
          rw [Array.getElem?_eq_getElem hi] at h1 ⊢
          simp only [Option.map_some, Option.getD_some, Array.all_eq_true] at h1 ⊢
          intro k hk
          have h2 := h1 k hk
          simp only [Bool.or_eq_true, decide_eq_true_eq] at h2 ⊢
          exact h2.imp id fun h3 => ih _ h3 (by omega)
      rw [hr] at hm
      cases hm

set_option maxHeartbeats 4000000 in
set_option maxRecDepth 100000 in
theorem chars_any (w : World) : Calls Tryd.prog 31 #[] w fun e w' => ∃ (B n : Nat) (D : DataW Unit), e = .returned (.map (some B)) ∧ w.heap.size ≤ B ∧ w'.ownsMap Tryd.prog 3 (plainElem Tryd.prog 3) B n D ∧ n ≤ 28 ∧
    (∀ c : Int, Maps.has D (.int .i64 c) = (charKind c).isSome) ∧ (∀ (c v : Int), charKind c = some v → ∀ z, D.atKey (.int .i64 c) z = .lit (.int .i64 v)) ∧ Below w.heap.size w w' := by
  go_enter Tryd.func31, Tryd.ntmps31
  go_wp2_with (fail)
  refine wp_region_any (by kernel_rfl) ?_
  refine wpAny_inv (Inv w) ?hs ?_ ?_ _ _ _ _ ?_ ?_ ?_
  case hs =>
    intro l a w' h
    exact h.sz
  case refine_1 =>
    intro l a w1 i h hdn hi hl hr
    have hi28 : i < 28 := hi
    have d26 : l.getD 26 false = true → ∀ t ∈ insL, l.getD t.1 false = true := fun h26 => by
      have := hdn 26 h26
      simp [depsOk, Region.binds] at this
      unfold insL
      simp [this]
    have d27 : l.getD 27 false = true → l.getD 26 false = true := fun h27 => by
      have := hdn 27 h27
      simp [depsOk, Region.binds] at this
      simp [this]
    have hcase : i = 0 ∨ i = 1 ∨ i = 2 ∨ i = 3 ∨ i = 4 ∨ i = 5 ∨ i = 6 ∨ i = 7 ∨ i = 8 ∨ i = 9 ∨ i = 10 ∨ i = 11 ∨ i = 12 ∨ i = 13 ∨ i = 14 ∨ i = 15 ∨ i = 16 ∨ i = 17 ∨ i = 18 ∨ i = 19 ∨ i = 20 ∨ i = 21 ∨ i = 22 ∨ i = 23 ∨ i = 24 ∨ i = 25 ∨ i = 26 ∨ i = 27 := by omega
    rcases hcase with rfl | rfl | rfl | rfl | rfl | rfl | rfl | rfl | rfl | rfl | rfl | rfl | rfl | rfl | rfl | rfl | rfl | rfl | rfl | rfl | rfl | rfl | rfl | rfl | rfl | rfl | rfl | rfl
    · have h26 : l.getD 26 false = false := Bool.eq_false_iff.2 fun x => by
        have := d26 x (2, 13, 1) (by decide)
        rw [h.no hl (2, 13, 1) (by decide)] at this
        cases this
      have h27 : l.getD 27 false = false := Bool.eq_false_iff.2 fun x => by rw [d27 x] at h26; cases h26
      exact wpOp_of rfl rfl (wp_value (v := .map (some w1.heap.size)) (w1 := w1.alloc (.map #[] 0)) (by simp [execOp, run_makeMap, Result.andThen]) (h.make hl h26 h27))
    · have h26 : l.getD 26 false = false := Bool.eq_false_iff.2 fun x => by
        have hj := d26 x (2, 13, 1) (by decide)
        have := hdn 2 hj
        have h1 : l.getD 1 false = true := by
          simp [depsOk, Region.binds] at this
          simp [this]
        rw [hl] at h1
        cases h1
      have h27 : l.getD 27 false = true → False := fun x => by rw [d27 x] at h26; cases h26
      refine wpOp_of rfl rfl (wp_goes Tryd.func42 (by kernel_rfl) rfl #[.int .i32 77] rfl (by simp [Act.eval]) ?_)
      refine (ctrl_any 77 13 w1 (by decide +kernel) (by decide +kernel)).mono ?_
      rintro e w2 ⟨rfl, rfl⟩
      refine ⟨_, rfl, ?_⟩
      exact h.put h.bel (fun _ _ _ => rfl) 1 2 _ (by decide) hl (by decide) (by decide) (by decide) (by decide) (by decide) (fun t ht e => by have hh := (by decide : ∀ t ∈ callL, t.1 = 1 → t.2.2 = 13 ∧ t.2.1 = 2) t ht e; exact ⟨by rw [hh.1], hh.2⟩) (fun x => by rcases x with x | x; exact absurd x (by decide); rw [h26] at x; cases x) (fun x => absurd x (by decide)) (fun x => absurd x (by decide)) (fun x => absurd x (by decide)) h27
    · have h26 : l.getD 26 false = false := Bool.eq_false_iff.2 fun x => by
        rw [d26 x (2, 13, 1) (by decide)] at hl
        cases hl
      exact wpOp_of rfl rfl (h.insert 2 13 1 (by decide) hl (by have := hr; simp [depsOk, Region.binds] at this; simp [this]) (by decide) (by decide) (by decide) (by decide) (by decide) h26 (by decide) (by decide) rfl (.tmp 2) rfl (h.cs (1, 2, 13) (by decide) (by have := hr; simp [depsOk, Region.binds] at this; simp [this])))
    · have h26 : l.getD 26 false = false := Bool.eq_false_iff.2 fun x => by
        have hj := d26 x (4, 10, 1) (by decide)
        have := hdn 4 hj
        have h1 : l.getD 3 false = true := by
          simp [depsOk, Region.binds] at this
          simp [this]
        rw [hl] at h1
        cases h1
      have h27 : l.getD 27 false = true → False := fun x => by rw [d27 x] at h26; cases h26
      refine wpOp_of rfl rfl (wp_goes Tryd.func42 (by kernel_rfl) rfl #[.int .i32 74] rfl (by simp [Act.eval]) ?_)
      refine (ctrl_any 74 10 w1 (by decide +kernel) (by decide +kernel)).mono ?_
      rintro e w2 ⟨rfl, rfl⟩
      refine ⟨_, rfl, ?_⟩
      exact h.put h.bel (fun _ _ _ => rfl) 3 3 _ (by decide) hl (by decide) (by decide) (by decide) (by decide) (by decide) (fun t ht e => by have hh := (by decide : ∀ t ∈ callL, t.1 = 3 → t.2.2 = 10 ∧ t.2.1 = 3) t ht e; exact ⟨by rw [hh.1], hh.2⟩) (fun x => by rcases x with x | x; exact absurd x (by decide); rw [h26] at x; cases x) (fun x => absurd x (by decide)) (fun x => absurd x (by decide)) (fun x => absurd x (by decide)) h27
    · have h26 : l.getD 26 false = false := Bool.eq_false_iff.2 fun x => by
        rw [d26 x (4, 10, 1) (by decide)] at hl
        cases hl
      exact wpOp_of rfl rfl (h.insert 4 10 1 (by decide) hl (by have := hr; simp [depsOk, Region.binds] at this; simp [this]) (by decide) (by decide) (by decide) (by decide) (by decide) h26 (by decide) (by decide) rfl (.tmp 3) rfl (h.cs (3, 3, 10) (by decide) (by have := hr; simp [depsOk, Region.binds] at this; simp [this])))
    · have h26 : l.getD 26 false = false := Bool.eq_false_iff.2 fun x => by
        have hj := d26 x (6, 8, 2) (by decide)
        have := hdn 6 hj
        have h1 : l.getD 5 false = true := by
          simp [depsOk, Region.binds] at this
          simp [this]
        rw [hl] at h1
        cases h1
      have h27 : l.getD 27 false = true → False := fun x => by rw [d27 x] at h26; cases h26
      refine wpOp_of rfl rfl (wp_goes Tryd.func42 (by kernel_rfl) rfl #[.int .i32 72] rfl (by simp [Act.eval]) ?_)
      refine (ctrl_any 72 8 w1 (by decide +kernel) (by decide +kernel)).mono ?_
      rintro e w2 ⟨rfl, rfl⟩
      refine ⟨_, rfl, ?_⟩
      exact h.put h.bel (fun _ _ _ => rfl) 5 4 _ (by decide) hl (by decide) (by decide) (by decide) (by decide) (by decide) (fun t ht e => by have hh := (by decide : ∀ t ∈ callL, t.1 = 5 → t.2.2 = 8 ∧ t.2.1 = 4) t ht e; exact ⟨by rw [hh.1], hh.2⟩) (fun x => by rcases x with x | x; exact absurd x (by decide); rw [h26] at x; cases x) (fun x => absurd x (by decide)) (fun x => absurd x (by decide)) (fun x => absurd x (by decide)) h27
    · have h26 : l.getD 26 false = false := Bool.eq_false_iff.2 fun x => by
        rw [d26 x (6, 8, 2) (by decide)] at hl
        cases hl
      exact wpOp_of rfl rfl (h.insert 6 8 2 (by decide) hl (by have := hr; simp [depsOk, Region.binds] at this; simp [this]) (by decide) (by decide) (by decide) (by decide) (by decide) h26 (by decide) (by decide) rfl (.tmp 4) rfl (h.cs (5, 4, 8) (by decide) (by have := hr; simp [depsOk, Region.binds] at this; simp [this])))
    · have h26 : l.getD 26 false = false := Bool.eq_false_iff.2 fun x => by
        rw [d26 x (7, 127, 2) (by decide)] at hl
        cases hl
      exact wpOp_of rfl rfl (h.insert 7 127 2 (by decide) hl (by have := hr; simp [depsOk, Region.binds] at this; simp [this]) (by decide) (by decide) (by decide) (by decide) (by decide) h26 (by decide) (by decide) rfl (.const (.int .i64 127)) rfl rfl)
    · have h26 : l.getD 26 false = false := Bool.eq_false_iff.2 fun x => by
        have hj := d26 x (9, 2, 4) (by decide)
        have := hdn 9 hj
        have h1 : l.getD 8 false = true := by
          simp [depsOk, Region.binds] at this
          simp [this]
        rw [hl] at h1
        cases h1
      have h27 : l.getD 27 false = true → False := fun x => by rw [d27 x] at h26; cases h26
      refine wpOp_of rfl rfl (wp_goes Tryd.func42 (by kernel_rfl) rfl #[.int .i32 66] rfl (by simp [Act.eval]) ?_)
      refine (ctrl_any 66 2 w1 (by decide +kernel) (by decide +kernel)).mono ?_
      rintro e w2 ⟨rfl, rfl⟩
      refine ⟨_, rfl, ?_⟩
      exact h.put h.bel (fun _ _ _ => rfl) 8 5 _ (by decide) hl (by decide) (by decide) (by decide) (by decide) (by decide) (fun t ht e => by have hh := (by decide : ∀ t ∈ callL, t.1 = 8 → t.2.2 = 2 ∧ t.2.1 = 5) t ht e; exact ⟨by rw [hh.1], hh.2⟩) (fun x => by rcases x with x | x; exact absurd x (by decide); rw [h26] at x; cases x) (fun x => absurd x (by decide)) (fun x => absurd x (by decide)) (fun x => absurd x (by decide)) h27
    · have h26 : l.getD 26 false = false := Bool.eq_false_iff.2 fun x => by
        rw [d26 x (9, 2, 4) (by decide)] at hl
        cases hl
      exact wpOp_of rfl rfl (h.insert 9 2 4 (by decide) hl (by have := hr; simp [depsOk, Region.binds] at this; simp [this]) (by decide) (by decide) (by decide) (by decide) (by decide) h26 (by decide) (by decide) rfl (.tmp 5) rfl (h.cs (8, 5, 2) (by decide) (by have := hr; simp [depsOk, Region.binds] at this; simp [this])))
    · have h26 : l.getD 26 false = false := Bool.eq_false_iff.2 fun x => by
        have hj := d26 x (11, 6, 5) (by decide)
        have := hdn 11 hj
        have h1 : l.getD 10 false = true := by
          simp [depsOk, Region.binds] at this
          simp [this]
        rw [hl] at h1
        cases h1
      have h27 : l.getD 27 false = true → False := fun x => by rw [d27 x] at h26; cases h26
      refine wpOp_of rfl rfl (wp_goes Tryd.func42 (by kernel_rfl) rfl #[.int .i32 70] rfl (by simp [Act.eval]) ?_)
      refine (ctrl_any 70 6 w1 (by decide +kernel) (by decide +kernel)).mono ?_
      rintro e w2 ⟨rfl, rfl⟩
      refine ⟨_, rfl, ?_⟩
      exact h.put h.bel (fun _ _ _ => rfl) 10 6 _ (by decide) hl (by decide) (by decide) (by decide) (by decide) (by decide) (fun t ht e => by have hh := (by decide : ∀ t ∈ callL, t.1 = 10 → t.2.2 = 6 ∧ t.2.1 = 6) t ht e; exact ⟨by rw [hh.1], hh.2⟩) (fun x => by rcases x with x | x; exact absurd x (by decide); rw [h26] at x; cases x) (fun x => absurd x (by decide)) (fun x => absurd x (by decide)) (fun x => absurd x (by decide)) h27
    · have h26 : l.getD 26 false = false := Bool.eq_false_iff.2 fun x => by
        rw [d26 x (11, 6, 5) (by decide)] at hl
        cases hl
      exact wpOp_of rfl rfl (h.insert 11 6 5 (by decide) hl (by have := hr; simp [depsOk, Region.binds] at this; simp [this]) (by decide) (by decide) (by decide) (by decide) (by decide) h26 (by decide) (by decide) rfl (.tmp 6) rfl (h.cs (10, 6, 6) (by decide) (by have := hr; simp [depsOk, Region.binds] at this; simp [this])))
    · have h26 : l.getD 26 false = false := Bool.eq_false_iff.2 fun x => by
        have hj := d26 x (13, 1, 6) (by decide)
        have := hdn 13 hj
        have h1 : l.getD 12 false = true := by
          simp [depsOk, Region.binds] at this
          simp [this]
        rw [hl] at h1
        cases h1
      have h27 : l.getD 27 false = true → False := fun x => by rw [d27 x] at h26; cases h26
      refine wpOp_of rfl rfl (wp_goes Tryd.func42 (by kernel_rfl) rfl #[.int .i32 65] rfl (by simp [Act.eval]) ?_)
      refine (ctrl_any 65 1 w1 (by decide +kernel) (by decide +kernel)).mono ?_
      rintro e w2 ⟨rfl, rfl⟩
      refine ⟨_, rfl, ?_⟩
      exact h.put h.bel (fun _ _ _ => rfl) 12 7 _ (by decide) hl (by decide) (by decide) (by decide) (by decide) (by decide) (fun t ht e => by have hh := (by decide : ∀ t ∈ callL, t.1 = 12 → t.2.2 = 1 ∧ t.2.1 = 7) t ht e; exact ⟨by rw [hh.1], hh.2⟩) (fun x => by rcases x with x | x; exact absurd x (by decide); rw [h26] at x; cases x) (fun x => absurd x (by decide)) (fun x => absurd x (by decide)) (fun x => absurd x (by decide)) h27
    · have h26 : l.getD 26 false = false := Bool.eq_false_iff.2 fun x => by
        rw [d26 x (13, 1, 6) (by decide)] at hl
        cases hl
      exact wpOp_of rfl rfl (h.insert 13 1 6 (by decide) hl (by have := hr; simp [depsOk, Region.binds] at this; simp [this]) (by decide) (by decide) (by decide) (by decide) (by decide) h26 (by decide) (by decide) rfl (.tmp 7) rfl (h.cs (12, 7, 1) (by decide) (by have := hr; simp [depsOk, Region.binds] at this; simp [this])))
    · have h26 : l.getD 26 false = false := Bool.eq_false_iff.2 fun x => by
        have hj := d26 x (15, 5, 7) (by decide)
        have := hdn 15 hj
        have h1 : l.getD 14 false = true := by
          simp [depsOk, Region.binds] at this
          simp [this]
        rw [hl] at h1
        cases h1
      have h27 : l.getD 27 false = true → False := fun x => by rw [d27 x] at h26; cases h26
      refine wpOp_of rfl rfl (wp_goes Tryd.func42 (by kernel_rfl) rfl #[.int .i32 69] rfl (by simp [Act.eval]) ?_)
      refine (ctrl_any 69 5 w1 (by decide +kernel) (by decide +kernel)).mono ?_
      rintro e w2 ⟨rfl, rfl⟩
      refine ⟨_, rfl, ?_⟩
      exact h.put h.bel (fun _ _ _ => rfl) 14 8 _ (by decide) hl (by decide) (by decide) (by decide) (by decide) (by decide) (fun t ht e => by have hh := (by decide : ∀ t ∈ callL, t.1 = 14 → t.2.2 = 5 ∧ t.2.1 = 8) t ht e; exact ⟨by rw [hh.1], hh.2⟩) (fun x => by rcases x with x | x; exact absurd x (by decide); rw [h26] at x; cases x) (fun x => absurd x (by decide)) (fun x => absurd x (by decide)) (fun x => absurd x (by decide)) h27
    · have h26 : l.getD 26 false = false := Bool.eq_false_iff.2 fun x => by
        rw [d26 x (15, 5, 7) (by decide)] at hl
        cases hl
      exact wpOp_of rfl rfl (h.insert 15 5 7 (by decide) hl (by have := hr; simp [depsOk, Region.binds] at this; simp [this]) (by decide) (by decide) (by decide) (by decide) (by decide) h26 (by decide) (by decide) rfl (.tmp 8) rfl (h.cs (14, 8, 5) (by decide) (by have := hr; simp [depsOk, Region.binds] at this; simp [this])))
    · have h26 : l.getD 26 false = false := Bool.eq_false_iff.2 fun x => by
        have hj := d26 x (17, 21, 8) (by decide)
        have := hdn 17 hj
        have h1 : l.getD 16 false = true := by
          simp [depsOk, Region.binds] at this
          simp [this]
        rw [hl] at h1
        cases h1
      have h27 : l.getD 27 false = true → False := fun x => by rw [d27 x] at h26; cases h26
      refine wpOp_of rfl rfl (wp_goes Tryd.func42 (by kernel_rfl) rfl #[.int .i32 85] rfl (by simp [Act.eval]) ?_)
      refine (ctrl_any 85 21 w1 (by decide +kernel) (by decide +kernel)).mono ?_
      rintro e w2 ⟨rfl, rfl⟩
      refine ⟨_, rfl, ?_⟩
      exact h.put h.bel (fun _ _ _ => rfl) 16 9 _ (by decide) hl (by decide) (by decide) (by decide) (by decide) (by decide) (fun t ht e => by have hh := (by decide : ∀ t ∈ callL, t.1 = 16 → t.2.2 = 21 ∧ t.2.1 = 9) t ht e; exact ⟨by rw [hh.1], hh.2⟩) (fun x => by rcases x with x | x; exact absurd x (by decide); rw [h26] at x; cases x) (fun x => absurd x (by decide)) (fun x => absurd x (by decide)) (fun x => absurd x (by decide)) h27
    · have h26 : l.getD 26 false = false := Bool.eq_false_iff.2 fun x => by
        rw [d26 x (17, 21, 8) (by decide)] at hl
        cases hl
      exact wpOp_of rfl rfl (h.insert 17 21 8 (by decide) hl (by have := hr; simp [depsOk, Region.binds] at this; simp [this]) (by decide) (by decide) (by decide) (by decide) (by decide) h26 (by decide) (by decide) rfl (.tmp 9) rfl (h.cs (16, 9, 21) (by decide) (by have := hr; simp [depsOk, Region.binds] at this; simp [this])))
    · have h26 : l.getD 26 false = false := Bool.eq_false_iff.2 fun x => by
        have hj := d26 x (19, 11, 9) (by decide)
        have := hdn 19 hj
        have h1 : l.getD 18 false = true := by
          simp [depsOk, Region.binds] at this
          simp [this]
        rw [hl] at h1
        cases h1
      have h27 : l.getD 27 false = true → False := fun x => by rw [d27 x] at h26; cases h26
      refine wpOp_of rfl rfl (wp_goes Tryd.func42 (by kernel_rfl) rfl #[.int .i32 75] rfl (by simp [Act.eval]) ?_)
      refine (ctrl_any 75 11 w1 (by decide +kernel) (by decide +kernel)).mono ?_
      rintro e w2 ⟨rfl, rfl⟩
      refine ⟨_, rfl, ?_⟩
      exact h.put h.bel (fun _ _ _ => rfl) 18 10 _ (by decide) hl (by decide) (by decide) (by decide) (by decide) (by decide) (fun t ht e => by have hh := (by decide : ∀ t ∈ callL, t.1 = 18 → t.2.2 = 11 ∧ t.2.1 = 10) t ht e; exact ⟨by rw [hh.1], hh.2⟩) (fun x => by rcases x with x | x; exact absurd x (by decide); rw [h26] at x; cases x) (fun x => absurd x (by decide)) (fun x => absurd x (by decide)) (fun x => absurd x (by decide)) h27
    · have h26 : l.getD 26 false = false := Bool.eq_false_iff.2 fun x => by
        rw [d26 x (19, 11, 9) (by decide)] at hl
        cases hl
      exact wpOp_of rfl rfl (h.insert 19 11 9 (by decide) hl (by have := hr; simp [depsOk, Region.binds] at this; simp [this]) (by decide) (by decide) (by decide) (by decide) (by decide) h26 (by decide) (by decide) rfl (.tmp 10) rfl (h.cs (18, 10, 11) (by decide) (by have := hr; simp [depsOk, Region.binds] at this; simp [this])))
    · have h26 : l.getD 26 false = false := Bool.eq_false_iff.2 fun x => by
        have hj := d26 x (21, 12, 10) (by decide)
        have := hdn 21 hj
        have h1 : l.getD 20 false = true := by
          simp [depsOk, Region.binds] at this
          simp [this]
        rw [hl] at h1
        cases h1
      have h27 : l.getD 27 false = true → False := fun x => by rw [d27 x] at h26; cases h26
      refine wpOp_of rfl rfl (wp_goes Tryd.func42 (by kernel_rfl) rfl #[.int .i32 76] rfl (by simp [Act.eval]) ?_)
      refine (ctrl_any 76 12 w1 (by decide +kernel) (by decide +kernel)).mono ?_
      rintro e w2 ⟨rfl, rfl⟩
      refine ⟨_, rfl, ?_⟩
      exact h.put h.bel (fun _ _ _ => rfl) 20 11 _ (by decide) hl (by decide) (by decide) (by decide) (by decide) (by decide) (fun t ht e => by have hh := (by decide : ∀ t ∈ callL, t.1 = 20 → t.2.2 = 12 ∧ t.2.1 = 11) t ht e; exact ⟨by rw [hh.1], hh.2⟩) (fun x => by rcases x with x | x; exact absurd x (by decide); rw [h26] at x; cases x) (fun x => absurd x (by decide)) (fun x => absurd x (by decide)) (fun x => absurd x (by decide)) h27
    · have h26 : l.getD 26 false = false := Bool.eq_false_iff.2 fun x => by
        rw [d26 x (21, 12, 10) (by decide)] at hl
        cases hl
      exact wpOp_of rfl rfl (h.insert 21 12 10 (by decide) hl (by have := hr; simp [depsOk, Region.binds] at this; simp [this]) (by decide) (by decide) (by decide) (by decide) (by decide) h26 (by decide) (by decide) rfl (.tmp 11) rfl (h.cs (20, 11, 12) (by decide) (by have := hr; simp [depsOk, Region.binds] at this; simp [this])))
    · have h26 : l.getD 26 false = false := Bool.eq_false_iff.2 fun x => by
        have hj := d26 x (23, 3, 11) (by decide)
        have := hdn 23 hj
        have h1 : l.getD 22 false = true := by
          simp [depsOk, Region.binds] at this
          simp [this]
        rw [hl] at h1
        cases h1
      have h27 : l.getD 27 false = true → False := fun x => by rw [d27 x] at h26; cases h26
      refine wpOp_of rfl rfl (wp_goes Tryd.func42 (by kernel_rfl) rfl #[.int .i32 67] rfl (by simp [Act.eval]) ?_)
      refine (ctrl_any 67 3 w1 (by decide +kernel) (by decide +kernel)).mono ?_
      rintro e w2 ⟨rfl, rfl⟩
      refine ⟨_, rfl, ?_⟩
      exact h.put h.bel (fun _ _ _ => rfl) 22 12 _ (by decide) hl (by decide) (by decide) (by decide) (by decide) (by decide) (fun t ht e => by have hh := (by decide : ∀ t ∈ callL, t.1 = 22 → t.2.2 = 3 ∧ t.2.1 = 12) t ht e; exact ⟨by rw [hh.1], hh.2⟩) (fun x => by rcases x with x | x; exact absurd x (by decide); rw [h26] at x; cases x) (fun x => absurd x (by decide)) (fun x => absurd x (by decide)) (fun x => absurd x (by decide)) h27
    · have h26 : l.getD 26 false = false := Bool.eq_false_iff.2 fun x => by
        rw [d26 x (23, 3, 11) (by decide)] at hl
        cases hl
      exact wpOp_of rfl rfl (h.insert 23 3 11 (by decide) hl (by have := hr; simp [depsOk, Region.binds] at this; simp [this]) (by decide) (by decide) (by decide) (by decide) (by decide) h26 (by decide) (by decide) rfl (.tmp 12) rfl (h.cs (22, 12, 3) (by decide) (by have := hr; simp [depsOk, Region.binds] at this; simp [this])))
    · have h26 : l.getD 26 false = false := Bool.eq_false_iff.2 fun x => by
        have hj := d26 x (25, 4, 12) (by decide)
        have := hdn 25 hj
        have h1 : l.getD 24 false = true := by
          simp [depsOk, Region.binds] at this
          simp [this]
        rw [hl] at h1
        cases h1
      have h27 : l.getD 27 false = true → False := fun x => by rw [d27 x] at h26; cases h26
      refine wpOp_of rfl rfl (wp_goes Tryd.func42 (by kernel_rfl) rfl #[.int .i32 68] rfl (by simp [Act.eval]) ?_)
      refine (ctrl_any 68 4 w1 (by decide +kernel) (by decide +kernel)).mono ?_
      rintro e w2 ⟨rfl, rfl⟩
      refine ⟨_, rfl, ?_⟩
      exact h.put h.bel (fun _ _ _ => rfl) 24 13 _ (by decide) hl (by decide) (by decide) (by decide) (by decide) (by decide) (fun t ht e => by have hh := (by decide : ∀ t ∈ callL, t.1 = 24 → t.2.2 = 4 ∧ t.2.1 = 13) t ht e; exact ⟨by rw [hh.1], hh.2⟩) (fun x => by rcases x with x | x; exact absurd x (by decide); rw [h26] at x; cases x) (fun x => absurd x (by decide)) (fun x => absurd x (by decide)) (fun x => absurd x (by decide)) h27
    · have h26 : l.getD 26 false = false := Bool.eq_false_iff.2 fun x => by
        rw [d26 x (25, 4, 12) (by decide)] at hl
        cases hl
      exact wpOp_of rfl rfl (h.insert 25 4 12 (by decide) hl (by have := hr; simp [depsOk, Region.binds] at this; simp [this]) (by decide) (by decide) (by decide) (by decide) (by decide) h26 (by decide) (by decide) rfl (.tmp 13) rfl (h.cs (24, 13, 4) (by decide) (by have := hr; simp [depsOk, Region.binds] at this; simp [this])))
    · have hall : ∀ t ∈ insL, l.getD t.1 false = true := by
        have := hr
        simp [depsOk, Region.binds] at this
        unfold insL
        simp [this]
      have h00 : l.getD 0 false = true := by
        have := hdn 2 (hall (2, 13, 1) (by decide))
        simp [depsOk, Region.binds] at this
        simp [this]
      have h27 : l.getD 27 false = true → False := fun x => by rw [d27 x] at hl; cases hl
      refine wpOp_of rfl rfl (wp_value (v := a.eval (.tmp 1)) (w1 := w1) rfl ?_)
      exact h.put h.bel (fun _ _ _ => rfl) 26 14 _ (by decide) hl (by decide) (by decide) (by decide) (by decide) (by decide) (fun t ht e => absurd e ((by decide : ∀ t ∈ callL, t.1 ≠ 26) t ht)) (fun _ => .inl rfl) (fun _ => ⟨rfl, rfl, hall, h00⟩) (fun x => absurd x (by decide)) (fun x => absurd x (by decide)) h27
    · have h26 : l.getD 26 false = true := by
        have := hr
        simp [depsOk, Region.binds] at this
        simp [this]
      refine wpOp_of rfl rfl (wp_value (v := a.eval (.tmp 14)) (w1 := w1) rfl ?_)
      exact h.put h.bel (fun _ _ _ => rfl) 27 0 _ (by decide) hl (by decide) (by decide) (by decide) (by decide) (by decide) (fun t ht e => absurd e ((by decide : ∀ t ∈ callL, t.1 ≠ 27) t ht)) (fun _ => .inr rfl) (fun x => absurd x (by decide)) (fun _ => ⟨rfl, rfl, h26⟩) (fun _ => rfl) (fun x => by rw [hl] at x; cases x)
  case refine_2 =>
    intro l a w1 h hdn hr
    have hall := all_of_ready h.sz hr (by decide +kernel)
    have hall' : ∀ i, i < 28 → l.getD i false = true := hall
    obtain ⟨B, n, D, hB, _, hown, hn, hhas, hat, h26, h27⟩ := h.mp (hall' 0 (by decide))
    have h0 := (h27 (hall' 27 (by decide))).1
    have hins : ∀ t ∈ insL, l.getD t.1 false = true := (h26 (hall' 26 (by decide))).2
    have hev : ∀ c : Int, Maps.has D (.int .i64 c) = (charKind c).isSome := by
      intro c
      rw [hhas, Bool.eq_iff_iff, List.any_eq_true]
      unfold charKind
      rw [Option.isSome_map, List.find?_isSome]
      constructor
      · rintro ⟨t, ht, hx⟩
        refine ⟨t, ht, ?_⟩
        rw [hins t ht] at hx
        simpa [Lit.sameKey] using hx
      · rintro ⟨t, ht, hx⟩
        refine ⟨t, ht, ?_⟩
        rw [hins t ht]
        simpa [Lit.sameKey] using hx
    have hgo : ∀ (c v : Int), charKind c = some v → ∀ z, D.atKey (.int .i64 c) z = .lit (.int .i64 v) := by
      intro c v hc z
      unfold charKind at hc
      rw [Option.map_eq_some_iff] at hc
      obtain ⟨t, ht, rfl⟩ := hc
      have hm := List.mem_of_find?_eq_some ht
      have hk := List.find?_some ht
      have hk2 : t.2.1 = c := by simpa only [beq_iff_eq] using hk
      subst hk2
      exact hat t hm (hins t hm) z
    have hn' : n ≤ 28 := by omega
    have hbel := h.bel
    have hdf := h.df
    clear h hdn hr hall hall' hhas hat h26 h27 hins
    rename_i Q' K hK
    refine K _ _ (wp_ret ?_)
    refine bodyPost_ret (results_tmp rfl _ _ _) hdf ⟨B, n, D, ?_, hB, hown, hn', hev, hgo, hbel⟩
    exact congrArg Ending.returned h0
  case refine_3 =>
    refine ⟨rfl, rfl, rfl, below_drew1 (Below.refl _ w), ?_, ?_, ?_⟩
    · intro t ht hg
      exact absurd hg (by rw [getD_replicate]; decide)
    · intro hg
      exact absurd hg (by rw [getD_replicate]; decide)
    · intro _ t ht
      exact getD_replicate _ _
  case refine_4 =>
    intro j hj
    exact absurd hj (by rw [getD_replicate]; decide)
  case refine_5 => decide +kernel
end Go.Proofs.YtanlgkmijegefaaDoor.Hand
