/- trace.told in closed form. -/
import Derived.Test.YtbiogabekhegaaaGreatDoorPtoldx1
import Derived.Test.YtbiogabekhegaaaGreatDoorHandPlain
namespace Go.Proofs.YtbiogabekhegaaaGreatDoor.Hand
open Go.RowKit Go.Proofs.YtbiogabekhegaaaGreatDoorW.PrintWords Go.Proofs.YtbiogabekhegaaaGreatDoorW.PrintLast
set_option linter.unusedVariables false
set_option linter.unusedSimpArgs false
theorem i64_and1 (n : Int) : Go.bits .and .i64 n 1 = n % 2 := by
  have h1 : (BitVec.ofInt 64 1).toNat = 2 ^ 1 - 1 := by decide
  have key : (BitVec.ofInt 64 n &&& BitVec.ofInt 64 1).toNat = (n % ((2 ^ 64 : Nat) : Int)).toNat % 2 ^ 1 := by
    rw [BitVec.toNat_and, BitVec.toNat_ofInt, h1, Nat.and_two_pow_sub_one_eq_mod]
  show IntKind.i64.wrap ((BitVec.ofInt 64 n &&& BitVec.ofInt 64 1).toNat : Nat) = n % 2
  rw [key, IntKind.wrap_i64]
  omega
def isHex (c : UInt8) : Bool := digL.contains c
def hexv (c : UInt8) : Int := Lib.indexByte digL c
def pairsL : List UInt8 → List Int
  | a :: b :: r => (16 * hexv a + hexv b) :: pairsL r
  | _ => []
/-- A text of bytes. -/
def toldOk (l : List UInt8) : Bool := decide (l = [45]) || (decide (l ≠ []) && decide (l.length % 2 = 0) && l.all isHex)
def toldL (l : List UInt8) : List Int := if l = [45] then [] else if toldOk l = true then pairsL l else []
theorem hexv_range (c : UInt8) (h : isHex c = true) : 0 ≤ hexv c ∧ hexv c ≤ 15 := by
  unfold isHex digL at h
  simp only [List.contains_cons, Bool.or_eq_true, beq_iff_eq, List.contains_nil, Bool.false_eq_true, or_false] at h
  unfold hexv
  rcases h with rfl | rfl | rfl | rfl | rfl | rfl | rfl | rfl | rfl | rfl | rfl | rfl | rfl | rfl | rfl | rfl <;> decide
theorem hex_join : ∀ a b : Fin 16, (Go.bits .or .i64 (wrap64 (((a.val : Nat) : Int) * 16)) ((b.val : Nat) : Int)) % 256 = 16 * ((a.val : Nat) : Int) + ((b.val : Nat) : Int) := by decide +kernel
theorem hex_join2 (a b : Int) (ha : 0 ≤ a ∧ a ≤ 15) (hb : 0 ≤ b ∧ b ≤ 15) : (Go.bits .or .i64 (wrap64 (a * 16)) b) % 256 = 16 * a + b := by
  obtain ⟨n, rfl⟩ := Int.eq_ofNat_of_zero_le ha.1
  obtain ⟨m, rfl⟩ := Int.eq_ofNat_of_zero_le hb.1
  exact hex_join ⟨n, by omega⟩ ⟨m, by omega⟩
theorem toList_mk (l : List UInt8) : (⟨l.toArray⟩ : ByteArray).toList = l := by rw [Lib.toList_data]
theorem told_loop : ∀ (k : Nat) (l : List UInt8) (acc : List Int), l.length = 2 * k → l.all isHex = true → acc.length + k ≤ 100000 → Ptold.trace_told.l0 (k + 1) ⟨l.toArray⟩ acc = some (acc ++ pairsL l, true) := by
  intro k
  induction k with
  | zero =>
    intro l acc hl hx ha
    obtain rfl : l = [] := List.eq_nil_of_length_eq_zero (by omega)
    unfold Ptold.trace_told.l0
    rw [if_pos (toList_mk [])]
    simp [pairsL]
  | succ k ih =>
    intro l acc hl hx ha
    match l, hl with
    | a :: b :: r, hl =>
      simp only [List.all_cons, Bool.and_eq_true] at hx
      have ra := hexv_range a hx.1
      have rb := hexv_range b hx.2.1
      have hsz : (⟨(a :: b :: r).toArray⟩ : ByteArray).size = r.length + 2 := by
        rw [Lib.size_eq]; simp
      have hb0 : bt ⟨(a :: b :: r).toArray⟩ 0 = a.toNat := by
        unfold bt
        rw [dif_pos (by rw [hsz]; simp)]
        rfl
      have hb1 : bt ⟨(a :: b :: r).toArray⟩ 1 = b.toNat := by
        unfold bt
        rw [dif_pos (by rw [hsz]; simp)]
        rfl
      have hex2 : (⟨(a :: b :: r).toArray⟩ : ByteArray).extract 2 (⟨(a :: b :: r).toArray⟩ : ByteArray).size = ⟨r.toArray⟩ := by
        apply ba_ext
        rw [Lib.extract_data, hsz]
        simp
      conv => lhs; unfold Ptold.trace_told.l0
      rw [if_neg (by rw [toList_mk]; simp), if_pos (by rw [hsz]; omega), hb0, hb1, hex2]
      unfold Hand.strings_IndexByte.f
      simp only [Option.bind_some]
      rw [if_pos (by rw [hsz]; omega), if_pos (by omega), if_pos (by rw [hsz]; omega)]
      have e1 : Lib.indexByte digL (((a.toNat : Nat) : Int).toNat.toUInt8) = hexv a := by simp [hexv]
      have e2 : Lib.indexByte digL (((b.toNat : Nat) : Int).toNat.toUInt8) = hexv b := by simp [hexv]
      have e3 : ([48, 49, 50, 51, 52, 53, 54, 55, 56, 57, 97, 98, 99, 100, 101, 102] : List UInt8) = digL := rfl
      rw [e3, e1, e2, hex_join2 _ _ ra rb, ih r _ (by simp at hl; omega) hx.2.2 (by simp; omega)]
      simp [pairsL]
theorem trimS_nil (l : List UInt8) : Lib.trimS l digL = [] ↔ l.all isHex = true := by
  have hd : ∀ (m : List UInt8), m.dropWhile (digL.contains ·) = [] ↔ m.all isHex = true := by
    intro m
    induction m with
    | nil => simp
    | cons c r ih =>
      rw [List.dropWhile_cons, List.all_cons, Bool.and_eq_true]
      cases hc : digL.contains c with
      | true => rw [if_pos rfl, ih, show isHex c = true from hc]; simp only [true_and]
      | false => rw [if_neg (by simp), show isHex c = false from hc]; simp
  unfold Lib.trimS Lib.trimLeftS
  rw [hd]
  constructor
  · intro h
    have h2 := (hd _).2 h
    unfold Lib.trimRightS at h h2
    cases he : l.reverse.dropWhile (digL.contains ·) with
    | nil =>
      have := (hd _).1 he
      rw [List.all_reverse] at this
      exact this
    | cons c r =>
      exfalso
      have hc : digL.contains c = false := by
        have := List.head?_dropWhile_not (digL.contains ·) l.reverse
        rw [he] at this
        simpa using this
      rw [he] at h
      rw [List.all_reverse, List.all_cons, Bool.and_eq_true] at h
      have h3 := h.1
      unfold isHex at h3
      rw [hc] at h3
      cases h3
  · intro h
    have : l.reverse.dropWhile (digL.contains ·) = [] := (hd _).2 (by rw [List.all_reverse]; exact h)
    unfold Lib.trimRightS
    rw [this]
    rfl
theorem told_f (s : ByteArray) (hs : s.size ≤ 100000) : ∃ k, Ptold.trace_told.f k s = some (toldL s.data.toList, toldOk s.data.toList) := by
  refine ⟨s.data.toList.length / 2 + 2, ?_⟩
  have hsz := Lib.size_eq s
  have ht : s.toList = s.data.toList := Lib.toList_data s
  unfold Ptold.trace_told.f
  rw [ht]
  by_cases h45 : s.data.toList = [45]
  · rw [if_pos h45]
    unfold toldL toldOk
    rw [if_pos h45, decide_eq_true h45]
    rfl
  · rw [if_neg h45]
    have hfalse : ∀ b, b = true → (Ptold.trace_told.j0 (s.data.toList.length / 2 + 2) s b) = some ([], false) := fun b hb => by
      show (if b = true then some ([], false) else _) = _
      rw [if_pos hb]
    by_cases h0 : s.data.toList = []
    · rw [if_pos h0, hfalse true rfl]
      unfold toldL toldOk
      rw [if_neg h45, h0]
      rfl
    · rw [if_neg h0, i64_and1]
      by_cases h2 : ((s.size : Nat) : Int) % 2 = 1
      · have hk : toldOk s.data.toList = false := by
          unfold toldOk
          rw [decide_eq_false h45, decide_eq_false (show ¬ s.data.toList.length % 2 = 0 by omega)]
          simp
        rw [if_pos h2, hfalse true rfl]
        unfold toldL
        rw [if_neg h45, hk, if_neg (by simp)]
      · rw [if_neg h2]
        unfold Hand.strings_Trim.f
        rw [if_pos ⟨hs, rfl⟩]
        simp only [Option.bind_some]
        have ht2 : (⟨(Lib.trimS s.data.toList digL).toArray⟩ : ByteArray).toList = Lib.trimS s.data.toList digL := toList_mk _
        rw [ht2]
        by_cases hx : s.data.toList.all isHex = true
        · have hk : toldOk s.data.toList = true := by
            unfold toldOk
            rw [hx, decide_eq_true (show s.data.toList.length % 2 = 0 by omega), decide_eq_true h0]
            simp
          rw [(trimS_nil _).2 hx]
          show (if (([] : List UInt8) != []) = true then some ([], false) else Ptold.trace_told.l0 (s.data.toList.length / 2 + 1) s []) = _
          rw [if_neg (by simp)]
          have := told_loop (s.data.toList.length / 2) s.data.toList [] (by omega) hx (by simp; omega)
          rw [show (⟨s.data.toList.toArray⟩ : ByteArray) = s from rfl] at this
          rw [this]
          unfold toldL
          rw [if_neg h45, hk, if_pos rfl]
          rfl
        · have hk : toldOk s.data.toList = false := by
            unfold toldOk
            rw [decide_eq_false h45, Bool.eq_false_iff.mpr hx]
            simp
          rw [hfalse _ (by simp only [bne_iff_ne, ne_eq]; exact fun e => hx ((trimS_nil _).1 e))]
          unfold toldL
          rw [if_neg h45, hk, if_neg (by simp)]
theorem told_ok (s : ByteArray) (hs : s.size ≤ 100000) (w : World) :
    Calls Tryz.prog 52 #[.string s] w fun e w' => ∃ v, e = .returned (.tuple #[v, .bool (toldOk s.data.toList)]) ∧ Kd.R (Kd.int .u8) 5 w' w.heap.size (fun _ => True) v (toldL s.data.toList) ∧ Below w.heap.size w w' := by
  obtain ⟨k, hk⟩ := told_f s hs
  exact Ptold.trace_told.calls k s _ _ w hk
end Go.Proofs.YtbiogabekhegaaaGreatDoor.Hand
