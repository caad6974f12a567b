/- The law's function literal that takes a text up to its first blank. -/
import Derived.Test.YtgdbkgjnonodjaaDoorHandPlainA
namespace Go.Proofs.YtgdbkgjnonodjaaDoor.Hand
open Go.RowKit Go.Proofs.YtgdbkgjnonodjaaDoorW.PrintWords Go.Proofs.YtgdbkgjnonodjaaDoorW.PrintLast
set_option linter.unusedVariables false
set_option linter.unusedSimpArgs false
def wordsOf (s : ByteArray) : ByteArray := ba (s.data.toList.takeWhile fun c => c != 32)
theorem take_all (l : List UInt8) (k : Nat) (hk : k < l.length) (h : ∀ j (hj : j < k), l[j]'(by omega) ≠ 32) (hc : l[k]'hk = 32) : l.takeWhile (fun c => c != 32) = l.take k := by
  induction l generalizing k with
  | nil => simp at hk
  | cons a r ih =>
    cases k with
    | zero =>
      have : a = 32 := hc
      subst this
      simp
    | succ k =>
      have h0 : a ≠ 32 := h 0 (by omega)
      rw [List.takeWhile_cons, if_pos (by simpa using h0), List.take_succ_cons, ih k (by simpa using hk) (fun j hj => h (j + 1) (by omega)) hc]
theorem take_none : ∀ (l : List UInt8), (∀ j (hj : j < l.length), l[j]'hj ≠ 32) → l.takeWhile (fun c => c != 32) = l
  | [], _ => rfl
  | a :: r, h => by
    have h0 : a ≠ 32 := h 0 (by simp)
    rw [List.takeWhile_cons, if_pos (by simpa using h0), take_none r (fun j hj => h (j + 1) (by simpa using hj))]
def law06_words.f (a0 : ByteArray) : Option ByteArray := if a0.size ≤ 9223372036854775806 then some (wordsOf a0) else none
set_option maxHeartbeats 2000000 in
set_option maxRecDepth 100000 in
theorem words_go (s : ByteArray) (hs : s.size ≤ 9223372036854775806) (w : World) : Calls Tryd.prog 15 #[.string s] w fun e w' => e = .returned (.string (wordsOf s)) ∧ w' = w := by
  obtain ⟨L, hL⟩ : ∃ L, L = s.data.toList := ⟨_, rfl⟩
  have hLn : L.length = s.size := by rw [hL, Lib.size_eq]
  go_enter Tryd.func15, Tryd.ntmps15
  go_wp2
  go_loop [6] (fun v => ∃ k : Nat, v = .int .i64 k ∧ k ≤ s.size ∧ Aside0 (∀ j (hj : j < L.length), j < k → L[j]'hj ≠ 32)) (fun v => s.size - (intOf v).toNat)
  case atStart => exact ⟨0, rfl, Nat.zero_le _, ⟨fun j hj h => by omega⟩⟩
  case round =>
    obtain ⟨k, rfl, hk, hall⟩ := hrel
    by_cases hlt : k < s.size
    · have hkL : k < L.length := by omega
      have hsk : s[k] = L[k]'hkL := by subst hL; rfl
      by_cases hc : s[k] = 32
      · have hci : ((s[k].toNat : Int) == 32) = true := by rw [hc]; decide
        have HF : Aside0 (wordsOf s = s.extract 0 k) := ⟨by
          apply ba_ext
          unfold wordsOf
          rw [data_ba, ← hL, take_all L k hkL (fun j hj => hall.out j (by omega) hj) (by rw [← hsk]; exact hc), Lib.extract_from_zero, ← hL]⟩
        clear hc hsk
        go_wp2
        go_ret
        exact ⟨by rw [HF.out]; rfl, rfl⟩
      · have hci : ((s[k].toNat : Int) == 32) = false := by
          rw [beq_eq_false_iff_ne]
          intro h
          exact hc (UInt8.toNat_inj.mp (by show s[k].toNat = 32; omega))
        have HN : Aside0 (∀ j (hj : j < L.length), j < k + 1 → L[j]'hj ≠ 32) := ⟨fun j hj h => by
          by_cases hjk : j = k
          · subst hjk; rw [← hsk]; exact hc
          · exact hall.out j hj (by omega)⟩
        clear hc hsk hall
        go_wp2
        go_round
        case rel => exact ⟨k + 1, by go_num, by omega, HN⟩
        case measure => simp [intOf]; omega
    · have HF : Aside0 (wordsOf s = s) := ⟨by
        apply ba_ext
        unfold wordsOf
        rw [data_ba, ← hL, take_none L (fun j hj => hall.out j hj (by omega))]⟩
      clear hall
      go_wp2
      go_ret
      exact ⟨by rw [HF.out]; rfl, rfl⟩
theorem law06_words.calls (a0 : ByteArray) (r : ByteArray) (w : World) (h : law06_words.f a0 = some r) :
    Calls Tryd.prog 15 #[.string a0] w fun e w' => e = .returned (.string r) ∧ Below w.heap.size w w' := by
  unfold law06_words.f at h
  split at h
  · rename_i hs
    obtain rfl := Option.some.inj h
    exact (words_go a0 hs w).mono (by rintro e w' ⟨rfl, rfl⟩; exact ⟨rfl, Below.refl _ _⟩)
  · cases h
section
variable {P : Program} {ops : Array Oper} {Q : Exit → Act → World → Prop}
/-- A call of a function value that lies in a slot, inside a region that draws. -/
theorem goesT_ {oi : Oper} {N : Option Tmp} {a : Act} {w : World} {K : Act → World → Prop} {f : FuncId} {fn : Func} {as_ : Array Operand} {ts : Array TypeId} (t : Tmp) (hf : P.funcs[f]? = some fn) (hname : (fn.name == "runtime.NumGoroutine") = false) (hb : fn.body.isSome = true) (args : Array Value)
    (hw : Region.wanted oi (yielded ops a.tmps) = true) (hN : oi.dst = N) (hop : oi.op = .call { callee := .value (.tmp t), args := as_, argTypes := ts }) (ht : a.eval (.tmp t) = a.eval (.func f)) (hargs : as_.map a.eval = args)
    (h : Calls P f args w fun e w' => ∃ v, e = .returned v ∧ K (a.put N v) w') : if Region.wanted oi (yielded ops a.tmps) = true then Oper.wp P oi a w K Q else K (a.put N undef) w := by
  refine call_ f args hw hN ?_ h
  have he := enters_ hf hname hb args w
  unfold execOp
  simp only [hop, resolve, ht]
  simp [Deferred.ofValue, invoke, Act.eval]
  rw [show Array.map a.eval as_ = args from hargs]
  exact he
end
end Go.Proofs.YtgdbkgjnonodjaaDoor.Hand
