/- A region that draws its order, by an invariant on what has been carried out; what a slot holds behind a put. -/
import Derived.Test.YtanlgkmijegefaaDoorHandMap
import Derived.Test.YtanlgkmijegefaaDoorWMore
namespace Go.Proofs.YtanlgkmijegefaaDoor.Hand
open Go.RowKit Go.Proofs.YtanlgkmijegefaaDoorW.PrintWords Go.Proofs.YtanlgkmijegefaaDoorW.PrintLast
set_option linter.unusedVariables false
set_option linter.unusedSimpArgs false

theorem eval_put (a : Act) (d e : Nat) (v : Value) (hd : d < a.tmps.size) : (a.put (some d) v).eval (.tmp e) = if e = d then v else a.eval (.tmp e) := by
  show (a.tmps.setIfInBounds d v).getD e undef = _
  by_cases h : e = d
  · subst h
    rw [if_pos rfl, Array.getD_eq_getD_getElem?, Array.getElem?_setIfInBounds, if_pos rfl, if_pos hd]
    rfl
  · rw [if_neg h, Array.getD_eq_getD_getElem?, Array.getElem?_setIfInBounds, if_neg (fun x => h x.symm)]
    show _ = a.tmps.getD e undef
    rw [Array.getD_eq_getD_getElem?]
theorem size_put (a : Act) (d : Option Nat) (v : Value) : (a.put d v).tmps.size = a.tmps.size := by
  cases d with
  | none => rfl
  | some d => simp [Act.put]
theorem defers_put (a : Act) (d : Option Nat) (v : Value) : (a.put d v).defers = a.defers := by cases d <;> rfl

/-- How many are still to come. -/
def toCome (l : Array Bool) : Nat := (l.toList.filter (fun b => !b)).length

theorem toCome_set : ∀ (l : List Bool) (i : Nat), l[i]? = some false → ((l.set i true).filter (fun b => !b)).length + 1 = (l.filter (fun b => !b)).length
  | [], i, h => by simp at h
  | b :: r, 0, h => by
    have : b = false := by simpa using h
    subst this
    simp
  | b :: r, i + 1, h => by
    have ih := toCome_set r i (by simpa using h)
    cases b <;> simp at ih ⊢ <;> omega

/-- What is ready: not carried out, and what it waits for has been. -/
theorem of_ready {md : Region.Mode} {ops : Array Oper} {l : Array Bool} {i : Nat} (h : i ∈ Region.ready md ops l) :
    i < ops.size ∧ l.getD i true = false ∧ ((ops[i]?).map (·.after.all fun e => !Region.binds md e || l.getD e.on false)).getD false = true := by
  unfold Region.ready at h
  simp only [List.mem_filter, List.mem_range, Bool.and_eq_true, Bool.not_eq_true'] at h
  exact ⟨h.1, h.2.1, h.2.2⟩

/-- What an operation waits for has been carried out. -/
def depsOk (md : Region.Mode) (ops : Array Oper) (l : Array Bool) (i : Nat) : Bool := ((ops[i]?).map (·.after.all fun e => !Region.binds md e || l.getD e.on false)).getD false
/-- Whatever has been carried out: what it waits for has been, too. -/
def Down (md : Region.Mode) (ops : Array Oper) (l : Array Bool) : Prop := ∀ j, l.getD j false = true → depsOk md ops l j = true

theorem getD_set' (l : Array Bool) (i j : Nat) (h : l.getD j false = true) : (l.setIfInBounds i true).getD j false = true := by
  rw [Array.getD_eq_getD_getElem?, Array.getElem?_setIfInBounds]
  by_cases e : i = j
  · subst e
    rw [if_pos rfl]
    rw [Array.getD_eq_getD_getElem?] at h
    split
    · rfl
    · rename_i hx
      rw [Array.getElem?_eq_none (by omega)] at h
      cases h
  · rw [if_neg e]
    rwa [Array.getD_eq_getD_getElem?] at h
theorem depsOk_mono {md : Region.Mode} {ops : Array Oper} {l : Array Bool} (i j : Nat) (h : depsOk md ops l j = true) : depsOk md ops (l.setIfInBounds i true) j = true := by
  unfold depsOk at h ⊢
  cases ho : ops[j]? with
  | none => rw [ho] at h; cases h
  | some o =>
    rw [ho] at h
    simp only [Option.map_some, Option.getD_some, Array.all_eq_true] at h ⊢
    intro k hk
    have := h k hk
    simp only [Bool.or_eq_true] at this ⊢
    exact this.imp id (getD_set' l i _)

theorem wpAny_inv {P : Program} {md : Region.Mode} {ops : Array Oper} {Q : Exit → Act → World → Prop} (Inv : Array Bool → Act → World → Prop) (hs : ∀ l a w, Inv l a w → l.size = ops.size)
    (hstep : ∀ l a w i, Inv l a w → Down md ops l → i < ops.size → l.getD i false = false → depsOk md ops l i = true → wpOp P ops Q i (fun a' w' => Inv (l.setIfInBounds i true) a' w') a w)
    (hend : ∀ l a w, Inv l a w → Down md ops l → Region.ready md ops l = [] → Q .normal a w) :
    ∀ (fuel : Nat) (l : Array Bool) (a : Act) (w : World), Inv l a w → Down md ops l → toCome l ≤ fuel → wpAny P md ops Q fuel l a w
  | 0, l, a, w, hi, hdn, hf => by
    have hr : Region.ready md ops l = [] := by
      rw [List.eq_nil_iff_forall_not_mem]
      intro i h
      obtain ⟨h1, h2, _⟩ := of_ready h
      have hlt : i < l.toList.length := by rw [Array.length_toList, hs l a w hi]; exact h1
      have hg : l.toList[i]? = some false := by
        rw [Array.getD_eq_getD_getElem?, Array.getElem?_eq_getElem (by simpa using hlt)] at h2
        rw [List.getElem?_eq_getElem hlt]
        simpa using h2
      have := toCome_set l.toList i hg
      unfold toCome at hf
      omega
    exact ⟨hr, hend l a w hi hdn hr⟩
  | fuel + 1, l, a, w, hi, hdn, hf => by
    refine ⟨hend l a w hi hdn, fun i h => ?_⟩
    obtain ⟨h1, h2, h3⟩ := of_ready h
    have hlt : i < l.toList.length := by rw [Array.length_toList, hs l a w hi]; exact h1
    have hg : l.toList[i]? = some false := by
      rw [Array.getD_eq_getD_getElem?, Array.getElem?_eq_getElem (by simpa using hlt)] at h2
      rw [List.getElem?_eq_getElem hlt]
      simpa using h2
    have hfalse : l.getD i false = false := by
      rw [Array.getD_eq_getD_getElem?, ← Array.getElem?_toList, hg]
      rfl
    have hdn' : Down md ops (l.setIfInBounds i true) := by
      intro j hj
      by_cases e : l.getD j false = true
      · exact depsOk_mono i j (hdn j e)
      · have : j = i := by
          rw [Array.getD_eq_getD_getElem?, Array.getElem?_setIfInBounds] at hj
          by_cases e2 : i = j
          · exact e2.symm
          · rw [if_neg e2, ← Array.getD_eq_getD_getElem?] at hj
            exact absurd hj e
        subst this
        exact depsOk_mono j j h3
    refine wpOp_mono (fun a' w' h' => wpAny_inv Inv hs hstep hend fuel _ a' w' h' hdn' ?_) (hstep l a w i hi hdn h1 hfalse h3)
    have h4 := toCome_set l.toList i hg
    unfold toCome at hf ⊢
    rw [Array.toList_setIfInBounds]
    omega

/-- One operation. -/
theorem wpOp_of {P : Program} {ops : Array Oper} {Q : Exit → Act → World → Prop} {i : Nat} {o : Oper} {K : Act → World → Prop} {a : Act} {w : World} (ho : ops[i]? = some o) (hg : o.guard = none) (h : Oper.wp P o a w K Q) : wpOp P ops Q i K a w := by
  unfold wpOp
  rw [ho]
  have hw : Region.wanted o (yielded ops a.tmps) = true := by simp [Region.wanted, hg]
  simp only [hw, if_true]
  exact .inl h
theorem wp_value {P : Program} {o : Oper} {a : Act} {w w1 : World} {K : Act → World → Prop} {Q : Exit → Act → World → Prop} {v : Value} (hrun : (execOp a.eval o).run P w = .ok (.value v) w1) (h : K (a.put o.dst v) w1) : Oper.wp P o a w K Q := by
  unfold Oper.wp
  rw [hrun]
  exact h
theorem wp_skip {P : Program} {o : Oper} {a : Act} {w w1 : World} {K : Act → World → Prop} {Q : Exit → Act → World → Prop} (hrun : (execOp a.eval o).run P w = .ok .skip w1) (h : K (a.put o.dst undef) w1) : Oper.wp P o a w K Q := by
  unfold Oper.wp
  rw [hrun]
  exact h
theorem wp_goes {P : Program} {o : Oper} {a : Act} {w : World} {K : Act → World → Prop} {Q : Exit → Act → World → Prop} {f : FuncId} {fn : Func} {os : Array Operand} {ts : Array TypeId} (hf : P.funcs[f]? = some fn) (hname : (fn.name == "runtime.NumGoroutine") = false) (hb : fn.body.isSome = true) (args : Array Value)
    (hop : o.op = .call { callee := .value (.func f), args := os, argTypes := ts }) (hargs : os.map a.eval = args) (h : Calls P f args w fun e w' => ∃ v, e = .returned v ∧ K (a.put o.dst v) w') : Oper.wp P o a w K Q := by
  have he := enters_ hf hname hb args w
  have hrun : (execOp a.eval o).run P w = .ok (.enter f args) w := by
    unfold execOp
    simp [hop, resolve, Deferred.ofValue, invoke, Act.eval, hargs, he]
  unfold Oper.wp
  rw [hrun, Oper.upon_enter]
  refine h.mono fun e w' hh => ?_
  obtain ⟨v, rfl, hk⟩ := hh
  exact hk

end Go.Proofs.YtanlgkmijegefaaDoor.Hand
