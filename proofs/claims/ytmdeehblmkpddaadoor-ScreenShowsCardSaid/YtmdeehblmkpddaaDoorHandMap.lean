/- Two laws that the hand texts of this seat use: a map literal's insertion into a map of the call's own; a look-up with ok by a string key. -/
import Derived.Test.YtmdeehblmkpddaaDoorProg
import Derived.Maps.OwnSet
import Derived.WalkKit
namespace Go.Proofs.YtmdeehblmkpddaaDoor.Hand
open Go.RowKit Go.Maps Go.WideShapes Go.ChangeMaps Go.WideMaps
set_option linter.unusedVariables false
set_option linter.unusedSimpArgs false

/-- 'map[K]V{.., k: v, ..}': one insertion of a literal. -/
theorem wpList_insert_own {H : Type} {P : Program} (w : World) {ops : Array Oper} {rest : List Oper} {o : Oper} {a : Act} {Q : Exit → Act → World → Prop}
    (hg : o.guard = none) (m x v : Operand) (t : TypeId) (hop : o.op = Op.insert t m x v)
    (k e : TypeId) (K : Keyed P k) (ht : P.underlying t = some (.map k e)) (R : Value → Option (DataW H × List MemPlace)) (b n : Nat) (D : DataW H)
    (hm : a.eval m = .map (some b)) (hown : w.ownsMap P k R b n D) (hn : n < maxLen) (key val : Value) (kl : Lit) (hx : a.eval x = key) (hv : a.eval v = val) (hkey : keyOf P k key = some kl)
    (d : DataW H) (ps : List MemPlace) (hval : R val = some (d, ps))
    (hK : ∀ w', w'.ownsMap P k R b (n + 1) (D.put kl d) → w.grownBy w' (some b) → wpList P ops Q rest (a.put o.dst undef) w') :
    wpList P ops Q (o :: rest) a w := by
  refine wpList_plain hg fun K' hK' => ?_
  obtain ⟨w', hrun, r1, r2⟩ := hown.update K ht hn hkey hval
  unfold Oper.wp
  simp [execOp, hop, hm, hx, hv, hrun, Result.andThen]
  exact hK' _ _ (hK w' r1 r2)

/-- A map literal with integer elements, as it is filled. -/
def litMap (l : List (Lit × Int)) : DataW Unit := l.foldl (fun D p => D.put p.1 (.lit (.int .i64 p.2))) (.map [])
/-- What stands at a key. -/
def findLit (l : List (Lit × Int)) (k : Lit) : Option Int := (l.find? (fun p => p.1.sameKey k)).map (·.2)

theorem fold_atKey (k : Lit) (z : DataW Unit) : ∀ (l : List (Lit × Int)) (D : DataW Unit), IsMap D → (∀ p ∈ l, WideAt.IsKeyLit p.1) → l.Pairwise (fun p q => p.1 ≠ q.1) →
    (l.foldl (fun D p => D.put p.1 (.lit (.int .i64 p.2))) D).atKey k z = match findLit l k with | some c => .lit (.int .i64 c) | none => D.atKey k z
  | [], D, _, _, _ => rfl
  | p :: r, D, hD, hk, hp => by
    obtain ⟨h1, h2⟩ := List.pairwise_cons.1 hp
    rw [List.foldl_cons, fold_atKey k z r (D.put p.1 _) (hD.put _ _) (fun q hq => hk q (by simp [hq])) h2]
    cases hs : p.1.sameKey k with
    | true =>
      have e := WideAt.sameKey_eq hs
      have hn : findLit r k = none := by
        unfold findLit
        rw [Option.map_eq_none_iff, List.find?_eq_none]
        intro q hq hh
        exact h1 q hq (e.trans (WideAt.sameKey_eq hh).symm)
      have hc : findLit (p :: r) k = some p.2 := by unfold findLit; simp [List.find?_cons, hs]
      rw [hn, hc]
      subst e
      exact atKey_put_same hD (hk p (by simp)) _ _
    | false =>
      have hc : findLit (p :: r) k = findLit r k := by unfold findLit; simp [List.find?_cons, hs]
      rw [hc]
      cases findLit r k with
      | some c => rfl
      | none =>
        refine atKey_put_other (fun e => ?_) _ _
        have hkp := hk p (by simp)
        rw [e, WideAt.sameKey_self hkp] at hs
        cases hs
theorem fold_has (k : Lit) : ∀ (l : List (Lit × Int)) (D : DataW Unit), IsMap D → (∀ p ∈ l, WideAt.IsKeyLit p.1) →
    Maps.has (l.foldl (fun D p => D.put p.1 (.lit (.int .i64 p.2))) D) k = ((findLit l k).isSome || Maps.has D k)
  | [], D, _, _ => by simp [findLit]
  | p :: r, D, hD, hk => by
    rw [List.foldl_cons, fold_has k r (D.put p.1 _) (hD.put _ _) (fun q hq => hk q (by simp [hq]))]
    cases hs : p.1.sameKey k with
    | true =>
      have e := WideAt.sameKey_eq hs
      have hc : findLit (p :: r) k = some p.2 := by unfold findLit; simp [List.find?_cons, hs]
      rw [hc]
      subst e
      rw [has_put_same hD (hk p (by simp))]
      simp
    | false =>
      have hc : findLit (p :: r) k = findLit r k := by unfold findLit; simp [List.find?_cons, hs]
      rw [hc]
      congr 1
      refine has_put_other (fun e => ?_) _
      have hkp := hk p (by simp)
      rw [e, WideAt.sameKey_self hkp] at hs
      cases hs
theorem litMap_atKey (l : List (Lit × Int)) (hk : ∀ p ∈ l, WideAt.IsKeyLit p.1) (hp : l.Pairwise (fun p q => p.1 ≠ q.1)) (k : Lit) : (litMap l).atKey k (.lit (.int .i64 0)) = .lit (.int .i64 ((findLit l k).getD 0)) := by
  unfold litMap
  rw [fold_atKey k _ l _ isMap_empty hk hp]
  cases findLit l k <;> rfl
theorem litMap_has (l : List (Lit × Int)) (hk : ∀ p ∈ l, WideAt.IsKeyLit p.1) (k : Lit) : Maps.has (litMap l) k = (findLit l k).isSome := by
  unfold litMap
  rw [fold_has k l _ isMap_empty hk]
  cases findLit l k <;> rfl

/-- 'v, ok := m[k]' on it. -/
theorem look_lit {P : Program} {w : World} {b n : Nat} {t k e : TypeId} {l : List (Lit × Int)} (hown : w.ownsMap (H := Unit) P k (plainElem P e) b n (litMap l)) (hl : ∀ p ∈ l, WideAt.IsKeyLit p.1) (hp : l.Pairwise (fun p q => p.1 ≠ q.1))
    (K : Keyed P k) (ht : P.underlying t = some (.map k e)) (he : P.underlying e = some (.int .i64)) (hz : (zeroValue e).run P w = .ok (.int .i64 0) w) {key : Value} {kl : Lit} (hkey : keyOf P k key = some kl) :
    (Instr.lookup t (.map (some b)) key true).run P w = .ok (.tuple #[.int .i64 ((findLit l kl).getD 0), .bool (findLit l kl).isSome]) w := by
  obtain ⟨v, ps, hrun, hv⟩ := hown.look_ok K ht hz (plainElem_int he (by rfl)) hkey
  obtain ⟨c, rfl, hc, _⟩ := plainElem_int_inv he hv
  rw [litMap_has l hl] at hrun
  rw [litMap_atKey l hl hp] at hc
  simp only [Prod.mk.injEq, DataW.lit.injEq, Lit.int.injEq, true_and] at hc
  rw [hrun, hc.1]

end Go.Proofs.YtmdeehblmkpddaaDoor.Hand
