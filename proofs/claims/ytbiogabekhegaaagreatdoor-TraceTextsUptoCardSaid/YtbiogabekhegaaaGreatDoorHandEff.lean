/- trace.number. -/
import Derived.Test.YtbiogabekhegaaaGreatDoorHandBase7
import Derived.Lib.AtoiAll
import Derived.Lib.AtoiErrMem
import Derived.Deep.QuietTactic
import Derived.BigQuiet
import Derived.Test.YtbiogabekhegaaaGreatDoorPtoldx1
import Derived.Test.YtbiogabekhegaaaGreatDoorHandPlain
import Derived.Test.YtbiogabekhegaaaGreatDoorWMore
import Derived.Test.YtbiogabekhegaaaGreatDoorProg
import Derived.Laws.Tables
import Derived.Laws.CopyOwn
import Derived.Deep.MidRow
import Derived.Test.YtbiogabekhegaaaGreatDoorHandRead7
import Derived.Deep.WholeRow
import Derived.Deep.RegionHeld3
namespace Go.Proofs.YtbiogabekhegaaaGreatDoor.Hand
open Go.RowKit Go.Proofs.YtbiogabekhegaaaGreatDoorW.PrintWords Go.Proofs.YtbiogabekhegaaaGreatDoorW.PrintLast
set_option linter.unusedVariables false
set_option linter.unusedSimpArgs false

def atoiV (l : List UInt8) : Int := match Lib.atoiAll l with | .ok v => v | .range => Lib.atoiSat l | _ => 0
def atoiOk (l : List UInt8) : Bool := match Lib.atoiAll l with | .ok _ => true | _ => false
theorem Lib_atoi_range {l : List UInt8} {v : Int} (h : Lib.atoiAll l = .ok v) : -9223372036854775808 ≤ v ∧ v ≤ 9223372036854775807 := by
  cases l with
  | nil => simp [Lib.atoiAll] at h
  | cons c r =>
    simp only [Lib.atoiAll] at h
    cases h2 : Lib.parseMag (if c.toNat = 43 ∨ c.toNat = 45 then r else c :: r)
    case ok u =>
      rw [h2] at h
      simp only at h
      by_cases hn : c.toNat = 45
      · by_cases hb : 9223372036854775808 < u
        · rw [if_neg (by simp [hn]), if_pos ⟨hn, hb⟩] at h; cases h
        · rw [if_neg (by simp [hn]), if_neg (fun x => hb x.2), if_pos hn] at h
          injection h with h
          omega
      · by_cases hb : 9223372036854775808 ≤ u
        · rw [if_pos ⟨hn, hb⟩] at h; cases h
        · rw [if_neg (fun x => hb x.2), if_neg (fun x => hn x.1), if_neg hn] at h
          injection h with h
          omega
    all_goals (rw [h2] at h; cases h)
theorem atoi_sat (l : List UInt8) : -9223372036854775808 ≤ Lib.atoiSat l ∧ Lib.atoiSat l ≤ 9223372036854775807 := by
  unfold Lib.atoiSat
  split <;> omega
theorem atoi_range (l : List UInt8) : -9223372036854775808 ≤ atoiV l ∧ atoiV l ≤ 9223372036854775807 := by
  unfold atoiV
  split
  · rename_i v h
    exact Lib_atoi_range h
  · exact atoi_sat l
  · omega
theorem atoi_any (s : ByteArray) (hs : s.size ≤ 281474976710656) (w : World) (HT : TabA w) :
    Calls Tryz.prog 67 #[.string s] w fun e w' => ∃ ev, e = .returned (.tuple #[.int .i64 (atoiV s.data.toList), ev]) ∧ ((atoiOk s.data.toList = false ∧ ∃ N, ev = .iface 139 (.pointer (some ⟨N, 0, none⟩))) ∨ (atoiOk s.data.toList = true ∧ ev = .nilIface)) ∧ Below w.heap.size w w' := by
  unfold atoiV atoiOk
  by_cases hs' : isSyn (Lib.atoiAll s.data.toList) = true
  · obtain ⟨ev, h1, h2⟩ := HT.es
    refine (Tryz.strconv_Atoi_syntax s hs hs' ev w h1 h2).mono ?_
    rintro e w' ⟨N, rfl, _, _, hb⟩
    revert hs'
    cases Lib.atoiAll s.data.toList <;> simp [isSyn, hb]
  · cases h : Lib.atoiAll s.data.toList with
    | ok v =>
      refine (Tryz.strconv_Atoi_ok s (by omega) v h w).mono ?_
      rintro e w' ⟨rfl, hw⟩
      refine ⟨_, rfl, .inr ⟨rfl, rfl⟩, ?_⟩
      rcases hw with rfl | ⟨t, rfl⟩
      · exact Below.refl _ _
      · exact Lib.bytesWorld_below w 5 t
    | range =>
      obtain ⟨ev, h1, h2⟩ := HT.er
      refine (Tryz.strconv_Atoi_range s hs h ev w h1 h2).mono ?_
      rintro e w' ⟨N, rfl, _, _, hb⟩
      exact ⟨_, rfl, .inl ⟨rfl, N, rfl⟩, hb⟩
    | _ =>
      rw [h] at hs'
      exact absurd rfl hs'
theorem itoa_any (n : Int) (h0 : -9223372036854775808 ≤ n) (h1 : n ≤ 9223372036854775807) (w : World) (HT : TabA w) :
    Calls Tryz.prog 46 #[.int .i64 n] w fun e w' => e = .returned (.string ⟨(Lib.itoa n).toArray⟩) ∧ Below w.heap.size w w' := by
  refine (Tryz.strconv_Itoa n h0 h1 w HT.tt.pow).mono ?_
  rintro e w' ⟨rfl, k, os, rfl⟩
  exact ⟨rfl, Lib.below_grow _ w (Nat.le_refl _) k os⟩

/-- A number, in its one text. -/
def numOk (s : ByteArray) : Bool := atoiOk s.data.toList && decide (0 ≤ atoiV s.data.toList) && decide (s.size ≤ 18) && decide (Lib.itoa (atoiV s.data.toList) = s.data.toList)
set_option maxHeartbeats 4000000 in
set_option maxRecDepth 100000 in
theorem number_ok (s : ByteArray) (hs : s.size ≤ 281474976710656) (w : World) (HT : TabA w) :
    Calls Tryz.prog 48 #[.string s] w fun e w' => e = .returned (.tuple #[.int .i64 (atoiV s.data.toList), .bool (numOk s)]) ∧ Below w.heap.size w w' := by
  have HA : ∀ W, TabA W → _ := fun W hT => atoi_any s hs W hT
  have hr := atoi_range s.data.toList
  have HI : ∀ W, TabA W → _ := fun W hT => itoa_any (atoiV s.data.toList) hr.1 hr.2 W hT
  have hq := ba_beq ⟨(Lib.itoa (atoiV s.data.toList)).toArray⟩ s
  have hq2 : decide ((⟨(Lib.itoa (atoiV s.data.toList)).toArray⟩ : ByteArray) = s) = decide (Lib.itoa (atoiV s.data.toList) = s.data.toList) := by
    rw [decide_eq_decide]
    exact ⟨fun e => congrArg (fun b : ByteArray => b.data.toList) e, fun e => ByteArray.ext ((congrArg List.toArray e).trans (by simp))⟩
  rw [hq2] at hq
  have hB : Aside0 (numOk s = (atoiOk s.data.toList && decide (0 ≤ atoiV s.data.toList) && decide (s.size ≤ 18) && decide (Lib.itoa (atoiV s.data.toList) = s.data.toList))) := ⟨rfl⟩
  clear hq2
  generalize decide (Lib.itoa (atoiV s.data.toList) = s.data.toList) = b6 at *
  generalize (⟨(Lib.itoa (atoiV s.data.toList)).toArray⟩ : ByteArray) = I at *
  generalize atoiV s.data.toList = n at *
  generalize atoiOk s.data.toList = b3 at *
  generalize numOk s = B at *
  obtain ⟨hr0, hr1⟩ := hr
  go_enter Tryz.func48, Tryz.ntmps48
  go_wp2_with (fail)
  refine (HA _ HT).mono ?_
  rintro e w3 ⟨ev, rfl, hev, hb⟩
  have hT3 := HT.below hb
  have hbA := Aside0.mk hb
  clear HA hb
  rcases hev with ⟨rfl, N, rfl⟩ | ⟨rfl, rfl⟩
  · have hBf : B = false := hB.out.trans (by simp)
    clear HI
    go_wp2_with (fail)
    go_ret2
    exact ⟨by first | rfl | (rw [hBf]; rfl), hbA.out⟩
  · by_cases h0 : 0 ≤ n
    · by_cases h9 : s.size ≤ 18
      · have hBf : Aside0 (B = b6) := ⟨hB.out.trans (by simp [h0, h9])⟩
        go_wp2_with (fail)
        refine (HI _ hT3).mono ?_
        rintro e w4 ⟨rfl, hb4⟩
        have hb5 := Aside0.mk (hbA.out.trans (hb4.mono hbA.out.size))
        clear HI hb4
        cases b6
        all_goals
          go_wp2_with (fail)
          go_ret2
          exact ⟨by first | rfl | (rw [hBf.out]; rfl), hb5.out⟩
      · have hBf : B = false := hB.out.trans (by simp [h9])
        have h9' : (18 : Int) < s.size := by omega
        clear HI
        go_wp2_with (fail)
        go_ret2
        exact ⟨by first | rfl | (rw [hBf]; rfl), hbA.out⟩
    · have hBf : B = false := hB.out.trans (by simp [h0])
      have h0' : n < 0 := by omega
      clear HI
      go_wp2_with (fail)
      go_ret2
      exact ⟨by first | rfl | (rw [hBf]; rfl), hbA.out⟩
end Go.Proofs.YtbiogabekhegaaaGreatDoor.Hand

namespace Go.Proofs.YtbiogabekhegaaaGreatDoor.Hand
open Go.RowKit Go.Proofs.YtbiogabekhegaaaGreatDoorW.PrintWords Go.Proofs.YtbiogabekhegaaaGreatDoorW.PrintLast
set_option linter.unusedVariables false
set_option linter.unusedSimpArgs false
theorem i64_and1 (n : Int) : Go.bits .and .i64 n 1 = n % 2 := by
  have h1 : (BitVec.ofInt 64 1).toNat = 2 ^ 1 - 1 := by decide
  have key : (BitVec.ofInt 64 n &&& BitVec.ofInt 64 1).toNat = (n % ((2 ^ 64 : Nat) : Int)).toNat % 2 ^ 1 := by
    rw [BitVec.toNat_and, BitVec.toNat_ofInt, h1, Nat.and_two_pow_sub_one_eq_mod]
  show IntKind.i64.wrap ((BitVec.ofInt 64 n &&& BitVec.ofInt 64 1).toNat : Nat) = n % 2
  rw [key, IntKind.wrap_i64]
  omega
def isHex (c : UInt8) : Bool := digL.contains c
def hexv (c : UInt8) : Int := Lib.indexByte digL c
def pairsL : List UInt8 → List Int
  | a :: b :: r => (16 * hexv a + hexv b) :: pairsL r
  | _ => []
/-- A text of bytes. -/
def toldOk (l : List UInt8) : Bool := decide (l = [45]) || (decide (l ≠ []) && decide (l.length % 2 = 0) && l.all isHex)
def toldL (l : List UInt8) : List Int := if l = [45] then [] else if toldOk l = true then pairsL l else []
theorem hexv_range (c : UInt8) (h : isHex c = true) : 0 ≤ hexv c ∧ hexv c ≤ 15 := by
  unfold isHex digL at h
  simp only [List.contains_cons, Bool.or_eq_true, beq_iff_eq, List.contains_nil, Bool.false_eq_true, or_false] at h
  unfold hexv
  rcases h with rfl | rfl | rfl | rfl | rfl | rfl | rfl | rfl | rfl | rfl | rfl | rfl | rfl | rfl | rfl | rfl <;> decide
theorem hex_join : ∀ a b : Fin 16, (Go.bits .or .i64 (wrap64 (((a.val : Nat) : Int) * 16)) ((b.val : Nat) : Int)) % 256 = 16 * ((a.val : Nat) : Int) + ((b.val : Nat) : Int) := by decide +kernel
theorem hex_join2 (a b : Int) (ha : 0 ≤ a ∧ a ≤ 15) (hb : 0 ≤ b ∧ b ≤ 15) : (Go.bits .or .i64 (wrap64 (a * 16)) b) % 256 = 16 * a + b := by
  obtain ⟨n, rfl⟩ := Int.eq_ofNat_of_zero_le ha.1
  obtain ⟨m, rfl⟩ := Int.eq_ofNat_of_zero_le hb.1
  exact hex_join ⟨n, by omega⟩ ⟨m, by omega⟩
theorem toList_mk (l : List UInt8) : (⟨l.toArray⟩ : ByteArray).toList = l := by rw [Lib.toList_data]
theorem told_loop : ∀ (k : Nat) (l : List UInt8) (acc : List Int), l.length = 2 * k → l.all isHex = true → acc.length + k ≤ 100000 → Ptold.trace_told.l0 (k + 1) ⟨l.toArray⟩ acc = some (acc ++ pairsL l, true) := by
  intro k
  induction k with
  | zero =>
    intro l acc hl hx ha
    obtain rfl : l = [] := List.eq_nil_of_length_eq_zero (by omega)
    unfold Ptold.trace_told.l0
    rw [if_pos (toList_mk [])]
    simp [pairsL]
  | succ k ih =>
    intro l acc hl hx ha
    match l, hl with
    | a :: b :: r, hl =>
      simp only [List.all_cons, Bool.and_eq_true] at hx
      have ra := hexv_range a hx.1
      have rb := hexv_range b hx.2.1
      have hsz : (⟨(a :: b :: r).toArray⟩ : ByteArray).size = r.length + 2 := by
        rw [Lib.size_eq]; simp
      have hb0 : bt ⟨(a :: b :: r).toArray⟩ 0 = a.toNat := by
        unfold bt
        rw [dif_pos (by rw [hsz]; simp)]
        rfl
      have hb1 : bt ⟨(a :: b :: r).toArray⟩ 1 = b.toNat := by
        unfold bt
        rw [dif_pos (by rw [hsz]; simp)]
        rfl
      have hex2 : (⟨(a :: b :: r).toArray⟩ : ByteArray).extract 2 (⟨(a :: b :: r).toArray⟩ : ByteArray).size = ⟨r.toArray⟩ := by
        apply ba_ext
        rw [Lib.extract_data, hsz]
        simp
      conv => lhs; unfold Ptold.trace_told.l0
      rw [if_neg (by rw [toList_mk]; simp), if_pos (by rw [hsz]; omega), hb0, hb1, hex2]
      unfold Hand.strings_IndexByte.f
      simp only [Option.bind_some]
      rw [if_pos (by rw [hsz]; omega), if_pos (by omega), if_pos (by rw [hsz]; omega)]
      have e1 : Lib.indexByte digL (((a.toNat : Nat) : Int).toNat.toUInt8) = hexv a := by simp [hexv]
      have e2 : Lib.indexByte digL (((b.toNat : Nat) : Int).toNat.toUInt8) = hexv b := by simp [hexv]
      have e3 : ([48, 49, 50, 51, 52, 53, 54, 55, 56, 57, 97, 98, 99, 100, 101, 102] : List UInt8) = digL := rfl
      rw [e3, e1, e2, hex_join2 _ _ ra rb, ih r _ (by simp at hl; omega) hx.2.2 (by simp; omega)]
      simp [pairsL]
theorem trimS_nil (l : List UInt8) : Lib.trimS l digL = [] ↔ l.all isHex = true := by
  have hd : ∀ (m : List UInt8), m.dropWhile (digL.contains ·) = [] ↔ m.all isHex = true := by
    intro m
    induction m with
    | nil => simp
    | cons c r ih =>
      rw [List.dropWhile_cons, List.all_cons, Bool.and_eq_true]
      cases hc : digL.contains c with
      | true => rw [if_pos rfl, ih, show isHex c = true from hc]; simp only [true_and]
      | false => rw [if_neg (by simp), show isHex c = false from hc]; simp
  unfold Lib.trimS Lib.trimLeftS
  rw [hd]
  constructor
  · intro h
    have h2 := (hd _).2 h
    unfold Lib.trimRightS at h h2
    cases he : l.reverse.dropWhile (digL.contains ·) with
    | nil =>
      have := (hd _).1 he
      rw [List.all_reverse] at this
      exact this
    | cons c r =>
      exfalso
      have hc : digL.contains c = false := by
        have := List.head?_dropWhile_not (digL.contains ·) l.reverse
        rw [he] at this
        simpa using this
      rw [he] at h
      rw [List.all_reverse, List.all_cons, Bool.and_eq_true] at h
      have h3 := h.1
      unfold isHex at h3
      rw [hc] at h3
      cases h3
  · intro h
    have : l.reverse.dropWhile (digL.contains ·) = [] := (hd _).2 (by rw [List.all_reverse]; exact h)
    unfold Lib.trimRightS
    rw [this]
    rfl
theorem told_f (s : ByteArray) (hs : s.size ≤ 100000) : ∃ k, Ptold.trace_told.f k s = some (toldL s.data.toList, toldOk s.data.toList) := by
  refine ⟨s.data.toList.length / 2 + 2, ?_⟩
  have hsz := Lib.size_eq s
  have ht : s.toList = s.data.toList := Lib.toList_data s
  unfold Ptold.trace_told.f
  rw [ht]
  by_cases h45 : s.data.toList = [45]
  · rw [if_pos h45]
    unfold toldL toldOk
    rw [if_pos h45, decide_eq_true h45]
    rfl
  · rw [if_neg h45]
    have hfalse : ∀ b, b = true → (Ptold.trace_told.j0 (s.data.toList.length / 2 + 2) s b) = some ([], false) := fun b hb => by
      show (if b = true then some ([], false) else _) = _
      rw [if_pos hb]
    by_cases h0 : s.data.toList = []
    · rw [if_pos h0, hfalse true rfl]
      unfold toldL toldOk
      rw [if_neg h45, h0]
      rfl
    · rw [if_neg h0, i64_and1]
      by_cases h2 : ((s.size : Nat) : Int) % 2 = 1
      · have hk : toldOk s.data.toList = false := by
          unfold toldOk
          rw [decide_eq_false h45, decide_eq_false (show ¬ s.data.toList.length % 2 = 0 by omega)]
          simp
        rw [if_pos h2, hfalse true rfl]
        unfold toldL
        rw [if_neg h45, hk, if_neg (by simp)]
      · rw [if_neg h2]
        unfold Hand.strings_Trim.f
        rw [if_pos ⟨hs, rfl⟩]
        simp only [Option.bind_some]
        have ht2 : (⟨(Lib.trimS s.data.toList digL).toArray⟩ : ByteArray).toList = Lib.trimS s.data.toList digL := toList_mk _
        rw [ht2]
        by_cases hx : s.data.toList.all isHex = true
        · have hk : toldOk s.data.toList = true := by
            unfold toldOk
            rw [hx, decide_eq_true (show s.data.toList.length % 2 = 0 by omega), decide_eq_true h0]
            simp
          rw [(trimS_nil _).2 hx]
          show (if (([] : List UInt8) != []) = true then some ([], false) else Ptold.trace_told.l0 (s.data.toList.length / 2 + 1) s []) = _
          rw [if_neg (by simp)]
          have := told_loop (s.data.toList.length / 2) s.data.toList [] (by omega) hx (by simp; omega)
          rw [show (⟨s.data.toList.toArray⟩ : ByteArray) = s from rfl] at this
          rw [this]
          unfold toldL
          rw [if_neg h45, hk, if_pos rfl]
          rfl
        · have hk : toldOk s.data.toList = false := by
            unfold toldOk
            rw [decide_eq_false h45, Bool.eq_false_iff.mpr hx]
            simp
          rw [hfalse _ (by simp only [bne_iff_ne, ne_eq]; exact fun e => hx ((trimS_nil _).1 e))]
          unfold toldL
          rw [if_neg h45, hk, if_neg (by simp)]
theorem told_ok (s : ByteArray) (hs : s.size ≤ 100000) (w : World) :
    Calls Tryz.prog 52 #[.string s] w fun e w' => ∃ v, e = .returned (.tuple #[v, .bool (toldOk s.data.toList)]) ∧ Kd.R (Kd.int .u8) 5 w' w.heap.size (fun _ => True) v (toldL s.data.toList) ∧ Below w.heap.size w w' := by
  obtain ⟨k, hk⟩ := told_f s hs
  exact Ptold.trace_told.calls k s _ _ w hk
end Go.Proofs.YtbiogabekhegaaaGreatDoor.Hand

namespace Go.Proofs.YtbiogabekhegaaaGreatDoor.Hand
open Go.RowKit Go.Proofs.YtbiogabekhegaaaGreatDoorW.PrintWords Go.Proofs.YtbiogabekhegaaaGreatDoorW.PrintLast
set_option linter.unusedVariables false
set_option linter.unusedSimpArgs false

abbrev kfn (k : Nat) : Value := .func (.func k) #[] #[]
abbrev kfn1 (k b : Nat) : Value := .func (.func k) #[] #[.pointer (some ⟨b, 0, none⟩)]
def kindsA (b : Nat) : Array Value :=
  #[.string ⟨#[103, 111, 116]⟩, .bool true, .int .i64 3, .func (.func 40) #[] #[], .func (.func 42) #[] #[],
    .string ⟨#[119, 97, 115]⟩, .bool true, .int .i64 3, .func (.func 40) #[] #[], .func (.func 42) #[] #[],
    .string ⟨#[119, 114, 111, 116, 101]⟩, .bool true, .int .i64 2, .func (.func 49) #[] #[.pointer (some ⟨b, 0, none⟩)], .func (.func 51) #[] #[.pointer (some ⟨b + 1, 0, none⟩)],
    .string ⟨#[114, 101, 97, 100]⟩, .bool true, .int .i64 1, .func (.func 45) #[] #[], .func (.func 47) #[] #[],
    .string ⟨#[115, 105, 103, 110, 97, 108]⟩, .bool false, .int .i64 1, .func (.func 45) #[] #[], .func (.func 47) #[] #[],
    .string ⟨#[101, 110, 100]⟩, .bool false, .int .i64 0, .func (.func 53) #[] #[], .func (.func 54) #[] #[],
    .string ⟨#[104, 105, 115, 116, 111, 114, 121]⟩, .bool false, .int .i64 0, .func (.func 53) #[] #[], .func (.func 54) #[] #[]]
theorem kinds_one (b : Nat) : (kindsA b).all (·.oneCell') = true := by
  kernel_rfl
def zerosK : Array Value := #[.string ⟨#[]⟩, .bool false, .int .i64 0, .nilFunc, .nilFunc, .string ⟨#[]⟩, .bool false, .int .i64 0, .nilFunc, .nilFunc, .string ⟨#[]⟩, .bool false, .int .i64 0, .nilFunc, .nilFunc, .string ⟨#[]⟩, .bool false, .int .i64 0, .nilFunc, .nilFunc, .string ⟨#[]⟩, .bool false, .int .i64 0, .nilFunc, .nilFunc, .string ⟨#[]⟩, .bool false, .int .i64 0, .nilFunc, .nilFunc, .string ⟨#[]⟩, .bool false, .int .i64 0, .nilFunc, .nilFunc]
theorem store_new {P : Program} (w : World) (cs : Array Value) (t : TypeId) (i : Nat) (v : Value) (hv : v.oneCell' = true) (hi : i < cs.size) :
    (store ⟨w.heap.size, i, none⟩ v).run P (w.alloc (.cells cs t)) = .ok () (w.alloc (.cells (cs.setIfInBounds i v) t)) := by
  have hA : (w.alloc (.cells cs t)).heap[w.heap.size]? = some (.cells cs t (0, 0)) := heap_alloc_new w _
  have hc : (w.alloc (.cells cs t)).cell? ⟨w.heap.size, i, none⟩ = some cs[i] := (blk_cell hA i).trans (Array.getElem?_eq_getElem hi)
  rw [run_store _ _ _ _ _ hv, hc]
  have hs : (w.alloc (.cells cs t)).setCell ⟨w.heap.size, i, none⟩ v = w.alloc (.cells (cs.setIfInBounds i v) t) := by
    unfold World.setCell World.alloc
    simp only [World.mk.injEq, true_and, and_true]
    apply Array.ext
    · simp
    · intro j h1 h2
      simp only [Array.getElem_modify, Array.getElem_push]
      by_cases e : j < w.heap.size
      · rw [if_neg (by omega)]
        simp [e]
      · have : w.heap.size = j := by simp at h1; omega
        subst this
        simp
  simp [blk_frozen hA i, hs]
set_option maxHeartbeats 4000000 in
set_option maxRecDepth 100000 in
theorem kinds_ok (w : World) : Calls Tryz.prog 24 #[] w fun e w' => e = .returned (.agg (kindsA (w.heap.size + 1))) ∧ w'.heap[w.heap.size + 1]? = some (.cells #[.func (.func 45) #[] #[]] 55 (0, 0)) ∧ w'.heap[w.heap.size + 2]? = some (.cells #[.func (.func 47) #[] #[]] 56 (0, 0)) ∧ Below w.heap.size w w' := by
  have hmf : ∀ (fn : Fn) (first cap : Array Value) (w : World), (Instr.makeFunc fn first cap).run Tryz.prog w = .ok (.func fn first cap) w := fun _ _ _ _ => rfl
  have p1 := store_new (P := Tryz.prog) (w.alloc (.cells zerosK 59)) #[.nilFunc] 55 0 (.func (.func 45) #[] #[]) rfl (by decide)
  have p2 := store_new (P := Tryz.prog) ((w.alloc (.cells zerosK 59)).alloc (.cells #[.func (.func 45) #[] #[]] 55)) #[.nilFunc] 56 0 (.func (.func 47) #[] #[]) rfl (by decide)
  have hA : (((w.alloc (.cells zerosK 59)).alloc (.cells #[.func (.func 45) #[] #[]] 55)).alloc (.cells #[.func (.func 47) #[] #[]] 56)).heap[w.heap.size]? = some (.cells zerosK 59 (0, 0)) := (heap_alloc_old _ _ (by simp; omega)).trans ((heap_alloc_old _ _ (by simp)).trans (heap_alloc_new w _))
  have hB := heap_alloc_new (w.alloc (.cells zerosK 59)) (.cells #[.func (.func 45) #[] #[]] 55)
  have hC := heap_alloc_new ((w.alloc (.cells zerosK 59)).alloc (.cells #[.func (.func 45) #[] #[]] 55)) (.cells #[.func (.func 47) #[] #[]] 56)
  have hB2 := (heap_alloc_old ((w.alloc (.cells zerosK 59)).alloc (.cells #[.func (.func 45) #[] #[]] 55)) (.cells #[.func (.func 47) #[] #[]] 56) (by simp)).trans hB
  have hl : Below w.heap.size w (((w.alloc (.cells zerosK 59)).alloc (.cells #[.func (.func 45) #[] #[]] 55)).alloc (.cells #[.func (.func 47) #[] #[]] 56)) := (((Below.refl _ w).alloc (Nat.le_refl _) _).alloc (by simp) _).alloc (by simp; omega) _
  have z1 : (w.alloc (.cells zerosK 59)).heap.size = w.heap.size + 1 := by simp
  have z2 : ((w.alloc (.cells zerosK 59)).alloc (.cells #[.func (.func 45) #[] #[]] 55)).heap.size = w.heap.size + 1 + 1 := by simp
  rw [z1] at p1 hB hB2
  rw [z2] at p2 hC
  have c1 := (blk_cell hB2 0).trans rfl
  have c2 := (blk_cell hC 0).trans rfl
  simp only [List.setIfInBounds_toArray, List.set_cons_zero] at p1 p2
  go_enter Tryz.func24, Tryz.ntmps24
  unfold zerosK at p1 p2 c1 c2 hA hB2 hC hl
  clear hB z1 z2
  have hAA := Aside0.mk hA
  have hBA := Aside0.mk hB2
  have hCA := Aside0.mk hC
  have hLA := Aside0.mk hl
  clear hA hB2 hC hl c1 c2
  go_upto_region 9 with (fail)
  clear p1 p2
  have hA := hAA.out
  have hB := hBA.out
  have hC := hCA.out
  have hL := hLA.out
  clear hAA hBA hCA hLA
  generalize ((w.alloc (.cells _ 59)).alloc (.cells _ 55)).alloc (.cells _ 56) = W at *
  obtain ⟨Z, hz, hA⟩ : ∃ Z : Array Value, Z.size = 35 ∧ W.heap[w.heap.size]? = some (.cells Z 59 (0, 0)) := ⟨_, rfl, hA⟩
  have c1 := (blk_cell hB 0).trans rfl
  have c2 := (blk_cell hC 0).trans rfl
  have hAA := Aside0.mk hA
  have hBA := Aside0.mk hB
  have hCA := Aside0.mk hC
  have hLA := Aside0.mk hL
  clear hA hB hC hL
  go_wp2_with (refine gate_ (.store 59 (.tmp 0) (.tmp 32)) rfl ?roundEnd)
  refine wpList_store_row rfl 59 (.tmp 0) (.tmp 32) rfl w.heap.size (kindsA (w.heap.size + 1)) rfl ?_ 59 Z hAA.out (by kernel_rfl) (hz.trans rfl) (kinds_one _) ?_
  · rfl
  go_wp2_with (fail)
  refine bodyPost_ret (results_cell_row rfl _ _ w.heap.size 59 _ (0, 0) _ rfl (setRow_heap _ _ _ _ _ _ hAA.out) Tryz.underlying59 rfl (by kernel_rfl)) rfl ?_
  refine ⟨rfl, (setRow_other _ _ _ _ (by omega)).trans hBA.out, (setRow_other _ _ _ _ (by omega)).trans hCA.out, below_setRow hLA.out (Nat.le_refl _) _⟩
end Go.Proofs.YtbiogabekhegaaaGreatDoor.Hand

namespace Go.Proofs.YtbiogabekhegaaaGreatDoor.Hand
open Go.RowKit Go.Proofs.YtbiogabekhegaaaGreatDoorW.PrintWords Go.Proofs.YtbiogabekhegaaaGreatDoorW.PrintLast
set_option linter.unusedVariables false
set_option linter.unusedSimpArgs false
structure Eff where
  k : Int
  fl : Int
  mn : Int
  tm : Int
  d : List Int
  n : Int
  ok : Bool
def Eff.zero : Eff := ⟨0, 0, 0, 0, [], 0, false⟩
def effK : Kd Eff := Kd.iso (Kd.pair (Kd.int .i64) (Kd.pair (Kd.int .u32) (Kd.pair (Kd.int .u8) (Kd.pair (Kd.int .u8) (Kd.pair (Kd.slice 5 (Kd.int .u8)) (Kd.pair (Kd.int .i64) Kd.bool)))))) (fun x => (x.k, x.fl, x.mn, x.tm, x.d, x.n, x.ok))
/-- Its seven cells, its bytes' slice v. -/
def effC (x : Eff) (v : Value) : Array Value := #[.int .i64 x.k, .int .u32 x.fl, .int .u8 x.mn, .int .u8 x.tm, v, .int .i64 x.n, .bool x.ok]
theorem grown_below {w w' : World} (h : Below w.heap.size w w') (r : Option Nat) : w.grownBy w' r := ⟨h.os, h.tape, h.output, h.size, fun k hk _ => h.block k hk⟩
theorem grown_set (w : World) (a : Addr) (v : Value) : w.grownBy (w.setCell a v) (some a.block) := by
  have hk : Below 0 w (w.setCell a v) := (Below.refl 0 w).setCell (Nat.zero_le _) v
  exact ⟨hk.os, hk.tape, hk.output, hk.size, fun k _ hf => Below.heap_setCell w _ v k (fun e => hf (by rw [show k = a.block from e]))⟩
section
variable {P : Program} {ops : Array Oper} {rest : List Oper} {o : Oper} {a : Act} {Q : Exit → Act → World → Prop}
/-- A value goes whole into the block that was made last. -/
theorem wpList_store_last {W : World} (hgd : o.guard = none) (ty : TypeId) (x y : Operand) (ho : o.op = .store ty x y) (n : Nat) (c c' : Array Value) (hn : n = W.heap.size) (hx : a.eval x = .pointer (some ⟨n, 0, none⟩)) (hy : a.eval y = .agg c')
    (hi : (P.info? ty).map (·.size) = some c'.size) (hs : c.size = c'.size) (h1 : c'.all (·.oneCell') = true) (h : wpList P ops Q rest (a.put o.dst undef) (W.alloc (.cells c' ty))) : wpList P ops Q (o :: rest) a (W.alloc (.cells c ty)) := by
  subst hn
  refine wpList_plain hgd fun K hK => ?_
  unfold Oper.wp execOp
  simp only [ho, hx, hy, Sem.run_bind, Sem.run_pure, run_storeAt_new W ty c c' hi hs h1, Result.andThen_ok]
  exact hK _ _ h
end
set_option maxHeartbeats 4000000 in
set_option maxRecDepth 100000 in
theorem readCount_ok (s : ByteArray) (hs : s.size ≤ 100000) (b g off n c : Nat) (x : Eff) (v : Value) (w : World) (HT : TabA w) (hb : w.heap[b]? = some (.cells (effC x v) 27 (0, 0))) (hc : w.cell? ⟨g, off, none⟩ = some (.string s)) (hn : 0 < n) (hm : (n : Int) ≤ 9223372036854775807) :
    Calls Tryz.prog 47 #[.pointer (some ⟨b, 0, none⟩), .slice (some ⟨g, off, none⟩) n c] w fun e w' => e = .returned (.bool (numOk s)) ∧ w'.heap[b]? = some (.cells (effC { x with n := atoiV s.data.toList } v) 27 (0, 0)) ∧ w.grownBy w' (some b) := by
  have HN := number_ok s (by omega) w HT
  have hbA := Aside0.mk hb
  have hn' : (0 : Int) < (n : Int) := by omega
  generalize numOk s = B at *
  generalize hV : atoiV s.data.toList = V at *
  clear hb
  go_enter Tryz.func47, Tryz.ntmps47
  go_wp2_with (fail)
  refine HN.mono ?_
  rintro e w1 ⟨rfl, hb1⟩
  have hB1 := (hb1.block b (blk_lt hbA.out)).trans hbA.out
  have c5 : w1.cell? ⟨b, 5, none⟩ = some (.int .i64 x.n) := blk_cell hB1 5
  have f5 := blk_frozen hB1 5
  have hBA := Aside0.mk hB1
  have hb1A := Aside0.mk hb1
  clear HN hB1 hb1
  go_wp2_with (fail)
  go_ret
  exact ⟨rfl, blk_put hBA.out 5 _ rfl, World.grownBy.trans (grown_below hb1A.out _) (grown_set w1 ⟨b, 5, none⟩ _)⟩

set_option maxHeartbeats 4000000 in
set_option maxRecDepth 100000 in
theorem readBytes_core (s0 s1 : ByteArray) (B : Bool) (L : List Int) (N : Bool) (V : Int) (b g off c q : Nat) (x : Eff) (v : Value) (w : World) (hb : w.heap[b]? = some (.cells (effC x v) 27 (0, 0)))
    (hc0 : w.cell? ⟨g, off, none⟩ = some (.string s0)) (hc1 : w.cell? ⟨g, off + 1, none⟩ = some (.string s1)) (hgb : g ≠ b) (hqb : q ≠ b) (hc : 2 ≤ c) (hq : w.cell? ⟨q, 0, none⟩ = some (.func (.func 47) #[] #[]))
    (HN : Calls Tryz.prog 52 #[.string s0] w fun e w' => ∃ v, e = .returned (.tuple #[v, .bool B]) ∧ Kd.R (Kd.int .u8) 5 w' w.heap.size (fun _ => True) v L ∧ Below w.heap.size w w')
    (HC : ∀ W u, w.grownBy W (some b) → W.heap[b]? = some (.cells (effC { x with d := L } u) 27 (0, 0)) → W.cell? ⟨g, off + 1, none⟩ = some (.string s1) → Calls Tryz.prog 47 #[.pointer (some ⟨b, 0, none⟩), .slice (some ⟨g, off + 1, none⟩) 1 (c - 1)] W fun e w' => e = .returned (.bool N) ∧ w'.heap[b]? = some (.cells (effC { x with d := L, n := V } u) 27 (0, 0)) ∧ W.grownBy w' (some b)) :
    Calls Tryz.prog 51 #[.pointer (some ⟨b, 0, none⟩), .slice (some ⟨g, off, none⟩) 2 c, .pointer (some ⟨q, 0, none⟩)] w fun e w' => ∃ v', e = .returned (.bool (B && N)) ∧
      w'.heap[b]? = some (.cells (effC { x with d := L, n := if B = true then V else x.n } v') 27 (0, 0)) ∧ Kd.R (Kd.int .u8) 5 w' w.heap.size (fun _ => True) v' L ∧ w.grownBy w' (some b) := by
  have hbA := Aside0.mk hb
  have HCA := Aside0.mk HC
  clear HC
  go_enter Tryz.func51, Tryz.ntmps51
  go_wp2_with (fail)
  refine HN.mono ?_
  rintro e w1 ⟨v', rfl, hr, hb1⟩
  have hB1 := (hb1.block b (blk_lt hbA.out)).trans hbA.out
  have c4 : w1.cell? ⟨b, 4, none⟩ = some v := blk_cell hB1 4
  have f4 := blk_frozen hB1 4
  have hq1 := cell_stays hq hb1
  have hc11 := cell_stays hc1 hb1
  obtain ⟨A', c', rfl⟩ := Kd.R_slice hr
  have hgr := World.grownBy.trans (grown_below hb1 (some b)) (grown_set w1 ⟨b, 4, none⟩ (.slice A' L.length c'))
  have hblt : b < w.heap.size := blk_lt hbA.out
  have hr2 : Kd.R (Kd.int .u8) 5 (w1.setCell ⟨b, 4, none⟩ (.slice A' L.length c')) w.heap.size (fun k => w.heap.size ≤ k) (.slice A' L.length c') L :=
    Kd.R_far (p := ⟨b, 4, none⟩) (ok := fun k => w.heap.size ≤ k) (Kd.R_mono (Kd.R_bound hr) (fun k hk => hk.2.1)) (fun k hk => by show k ≠ b; omega) _
  have hB2 : (w1.setCell ⟨b, 4, none⟩ (.slice A' L.length c')).heap[b]? = some (.cells (effC { x with d := L } (.slice A' L.length c')) 27 (0, 0)) := blk_put hB1 4 _ rfl
  have hq2 := (grown_set w1 ⟨b, 4, none⟩ (.slice A' L.length c')).cell hq1 (fun e => hqb (Option.some.inj e))
  have hc12 := (grown_set w1 ⟨b, 4, none⟩ (.slice A' L.length c')).cell hc11 (fun e => hgb (Option.some.inj e))
  have Z := Aside0.mk (And.intro hB2 (And.intro hr2 (And.intro hgr hblt)))
  clear HN hB1 hb1 hb hr hgr hr2 hB2 hblt hbA hq1 hc11
  go_wp2_with (fail)
  generalize w1.setCell ⟨b, 4, none⟩ (.slice A' L.length c') = w2 at *
  clear c4 f4
  cases B
  · go_quiet (fail)
    go_wp2_with (fail)
    go_ret
    have hd : Below w2.heap.size w2 (w2.drewN nq) := pw_below_drewN (Below.refl _ _) _
    exact ⟨rfl, _, (hd.block b (blk_lt Z.out.1)).trans Z.out.1, Kd.R_mono (Kd.R_below Z.out.2.1 hd) (fun _ _ => trivial), World.grownBy.trans Z.out.2.2.1 (grown_below hd _)⟩
  · have hq3 : w2.drew.cell? ⟨q, 0, none⟩ = some (.func (.func 47) #[] #[]) := hq2
    have hdr := Aside0.mk (below_drew1 (Below.refl w2.heap.size w2))
    have HC := Aside0.mk (HCA.out w2.drew (.slice A' L.length c') (World.grownBy.trans Z.out.2.2.1 (grown_below hdr.out _)) Z.out.1 hc12)
    have h1 : c ≠ 1 := by omega
    have h2 : c ≠ 0 := by omega
    have h3 : (2 : Int) ≤ c := by omega
    have h4 : (1 : Int) ≤ c := by omega
    go_region_held3 (fun W => W.cell? ⟨q, 0, none⟩ = some (.func (.func 47) #[] #[])) (first | assumption | exact World.grownBy.cell (by assumption) hq3 (fun e => hqb (Option.some.inj e)))
      ((go_at_call 47; refine HC.out.mono ?_; rintro e w3 ⟨rfl, hB3, hg3⟩))
    go_wp2_with (fail)
    go_ret
    have hR3 := Kd.R_grown (Kd.R_mono (Kd.R_bound Z.out.2.1) (ok' := fun k => k ≠ b) (fun k hk => by have := hk.1; have := Z.out.2.2.2; omega)) (World.grownBy.trans (grown_below hdr.out (some b)) hg3) (fun k hk e => hk (Option.some.inj e))
    exact ⟨rfl, _, hB3, Kd.R_mono hR3 (fun _ _ => trivial), World.grownBy.trans Z.out.2.2.1 (World.grownBy.trans (grown_below hdr.out _) hg3)⟩

set_option maxHeartbeats 4000000 in
set_option maxRecDepth 100000 in
theorem readAttrs_core (s : ByteArray) (F M T E : Int) (b n c : Nat) (A : Option Addr) (x : Eff) (v : Value) (w : World) (hb : w.heap[b]? = some (.cells (effC x v) 27 (0, 0)))
    (HJ : Calls Tryz.prog 44 #[.slice A n c, .string ⟨#[32]⟩] w fun e w' => e = .returned (.string s) ∧ Below w.heap.size w w')
    (HR : ∀ W, Below w.heap.size w W → Calls Tryz.prog 43 #[.string s] W fun e w' => e = .returned (.tuple #[.agg #[.int .u32 F, .int .u8 M, .int .u8 T], .int .i64 E]) ∧ Below W.heap.size W w') :
    Calls Tryz.prog 42 #[.pointer (some ⟨b, 0, none⟩), .slice A n c] w fun e w' => e = .returned (.bool (E == 0)) ∧
      w'.heap[b]? = some (.cells (effC { x with fl := F, mn := M, tm := T } v) 27 (0, 0)) ∧ w.grownBy w' (some b) := by
  have hbA := Aside0.mk hb
  have HRA := Aside0.mk HR
  clear HR
  go_enter Tryz.func42, Tryz.ntmps42
  go_wp2_with (fail)
  refine HJ.mono ?_
  rintro e w1 ⟨rfl, hb1⟩
  have HR := HRA.out w1 hb1
  clear HRA HJ
  go_wp2_with (fail)
  refine HR.mono ?_
  rintro e w2 ⟨rfl, hb2⟩
  have hb12 := hb1.trans (hb2.mono hb1.size)
  have hB2 := (hb12.block b (blk_lt hbA.out)).trans hbA.out
  have hb3 := Aside0.mk (hb12.alloc (Nat.le_trans hb1.size hb2.size) (.cells #[.int .u32 F, .int .u8 M, .int .u8 T] 25))
  have hB3 := Aside0.mk ((heap_alloc_old w2 (.cells #[.int .u32 F, .int .u8 M, .int .u8 T] 25) (blk_lt hB2)).trans hB2)
  have hN := Aside0.mk (heap_alloc_new w2 (.cells #[.int .u32 F, .int .u8 M, .int .u8 T] 25))
  have hl := Aside0.mk (blk_lt hB2)
  clear hb1 hb2 hb12 hB2 hb HR
  go_upto_region 2 with (fail)
  generalize w2.alloc (.cells #[.int .u32 F, .int .u8 M, .int .u8 T] 25) = w3 at *
  have d0 : w3.cell? ⟨w2.heap.size, 0, none⟩ = some (.int .u32 F) := blk_cell hN.out 0
  have d1 : w3.cell? ⟨w2.heap.size, 1, none⟩ = some (.int .u8 M) := blk_cell hN.out 1
  have d2 : w3.cell? ⟨w2.heap.size, 2, none⟩ = some (.int .u8 T) := blk_cell hN.out 2
  have c1 : w3.cell? ⟨b, 1, none⟩ = some (.int .u32 x.fl) := blk_cell hB3.out 1
  have c2 : w3.cell? ⟨b, 2, none⟩ = some (.int .u8 x.mn) := blk_cell hB3.out 2
  have c3 : w3.cell? ⟨b, 3, none⟩ = some (.int .u8 x.tm) := blk_cell hB3.out 3
  have f1 := blk_frozen hB3.out 1
  have f2 := blk_frozen hB3.out 2
  have f3 := blk_frozen hB3.out 3
  go_wp2_with (fail)
  go_ret
  refine ⟨rfl, blk_put (blk_put (blk_put hB3.out 1 _ rfl) 2 _ rfl) 3 _ rfl, ?_⟩
  exact World.grownBy.trans (World.grownBy.trans (World.grownBy.trans (grown_below hb3.out _) (grown_set w3 ⟨b, 1, none⟩ _)) (grown_set _ ⟨b, 2, none⟩ _)) (grown_set _ ⟨b, 3, none⟩ _)
set_option maxHeartbeats 4000000 in
set_option maxRecDepth 100000 in
theorem always_ok (p v : Value) (w : World) : Calls Tryz.prog 54 #[p, v] w fun e w' => e = .returned (.bool true) ∧ w' = w := by
  go_enter Tryz.func54, Tryz.ntmps54
  go_wp2_with (fail)
  go_ret
  exact ⟨rfl, rfl⟩
end Go.Proofs.YtbiogabekhegaaaGreatDoor.Hand
