/- ScreenBacks: columns that are gone back are as many fewer. -/
import Derived.Test.YtmdeehblmkpddaaDoorPlainBacks14
import Derived.LoopTactic
import Derived.Lib.ConvBytes
namespace Go.Proofs.YtmdeehblmkpddaaDoor.Hand
open Go.RowKit Go.Proofs.YtmdeehblmkpddaaDoorW.PrintWords Go.Proofs.YtmdeehblmkpddaaDoorW.PrintLast
set_option linter.unusedVariables false
set_option linter.unusedSimpArgs false
def BkOn (w wr : World) (g n c m : Nat) : Prop := ∃ F, On w wr g (bk n c) m F
theorem BkOn.below {w wr W : World} {g n c m : Nat} (h : BkOn w wr g n c m) (hb : Below wr.heap.size wr W) : BkOn w W g n c m := by
  obtain ⟨F, h⟩ := h
  exact ⟨F, h.below hb⟩
theorem BkOn.up {w wr : World} {g n c m m' : Nat} (h : BkOn w wr g n c m) (hm : m ≤ m') : BkOn w wr g n c m' := by
  obtain ⟨F, h⟩ := h
  obtain ⟨q, hf, hq, hb⟩ := h.f
  exact ⟨F, h.x, ⟨q, hf, by omega, hb⟩, h.G⟩
theorem BkOn.b {w wr : World} {g n c m : Nat} (h : BkOn w wr g n c m) : Below w.heap.size w wr := by
  obtain ⟨F, h⟩ := h
  exact h.G.b
theorem bkFeed_ok {w wr : World} {g n c n' c' m : Nat} (h : BkOn w wr g n c m) (HT : TabS w) (A : Option Addr) (cap : Nat) (l : List Int) (hl : (bk n c).feed l = bk n' c') (hr : Kd.C (Kd.int .u8) wr A l.length l) (hc : l.length ≤ cap) (hb : ∀ x ∈ l, 0 ≤ x ∧ x ≤ 255) (hn : m + l.length ≤ 20000) :
    Calls Tryd.prog 12 #[.pointer (some ⟨g, 0, none⟩), .slice A l.length cap] wr fun e w' => e = .returned (.int .i64 0) ∧ BkOn w w' g n' c' (m + l.length) := by
  obtain ⟨F, h⟩ := h
  refine (feed_on h HT.n HT.u A cap l hr hc hb hn).mono ?_
  rintro e w' ⟨rfl, hs, hm⟩
  rw [hl] at hs
  exact ⟨rfl, _, hs⟩
theorem bkPlace_ok {w wr : World} {g n c m : Nat} (h : BkOn w wr g n c m) : Calls Tryd.prog 13 #[.pointer (some ⟨g, 0, none⟩)] wr fun e w' => e = .returned (.tuple #[.int .i64 0, .int .i64 c]) ∧ Below wr.heap.size wr w' := by
  obtain ⟨F, h⟩ := h
  exact place_ok wr g _ F h.x
theorem bkOdd_ok {w wr : World} {g n c m : Nat} (h : BkOn w wr g n c m) : Calls Tryd.prog 15 #[.pointer (some ⟨g, 0, none⟩)] wr fun e w' => e = .returned (.int .i64 0) ∧ Below wr.heap.size wr w' := by
  obtain ⟨F, h⟩ := h
  exact odd_ok wr g _ F h.x
theorem bkRow_ok {w wr : World} {g n c m : Nat} (h : BkOn w wr g n c m) (hm : m ≤ 100000) : Calls Tryd.prog 14 #[.pointer (some ⟨g, 0, none⟩), .int .i64 0] wr fun e w' => e = .returned (.string (xs n)) ∧ Below wr.heap.size wr w' := by
  obtain ⟨F, h⟩ := h
  exact rowS_ok wr g _ F m h.x h.f.fine (by omega) 0 (Nat.zero_lt_succ _)
theorem digit_str (y : Nat) : (strOfNums [48 + (y : Int) % 10]).data.toList = [(48 + y % 10).toUInt8] := by
  have : (48 + (y : Int) % 10).toNat = 48 + y % 10 := by omega
  simp [strOfNums, this]
theorem bytesS_C (w : World) (e : TypeId) (s : ByteArray) (l : List Int) (hl : s.data.toList.map (fun (b : UInt8) => (b.toNat : Int)) = l) (hs : s.size ≤ 9223372036854775807) : Kd.C (Kd.int .u8) (Lib.bytesWorld w e s) (some ⟨w.heap.size, 0, none⟩) l.length l := by
  have hlen : l.length = s.size := by
    rw [← hl, List.length_map]
    exact Array.length_toList
  refine Kd.C_of_reads (d := (0 : Int)) ⟨rfl, by rw [hlen]; exact hs, fun _ => ⟨_, rfl, fun j hj => ?_⟩⟩
  rw [hlen] at hj
  rw [Go.Proofs.YtmdeehblmkpddaaDoorW.PrintWords.add_plain, Lib.bytesWorld_cell w e s j hj]
  have hj' : j < s.data.toList.length := hj
  rw [← hl]
  simp [List.getD_eq_getElem?_getD, List.getElem?_map, List.getElem?_eq_getElem hj']
set_option maxHeartbeats 4000000 in
set_option maxRecDepth 100000 in
theorem ScreenBacks_walk (a0 : Int) (a1 : Option Addr) (len1 cap1 : Nat) (z1 : List Int) (w : World) (HT : TabS w) (w0 : (Lit.int .u8 a0).wf = true)
    (w1 : (a1 = none ∧ len1 = 0 ∧ cap1 = 0 ∧ z1 = []) ∨ ∃ x, a1 = some x ∧ len1 ≤ cap1 ∧ cap1 ≤ maxLen ∧ z1.length = cap1 ∧ (∀ i, i < z1.length → w.cell? (x.add i) = some (.int .u8 (z1.getD i 0))) ∧ ∀ n ∈ z1, (Lit.int .u8 n).wf = true)
    (y1 : len1 * 1 ≤ 140737488351232) :
    Calls Tryd.prog 3 #[.int .u8 a0, .slice a1 len1 cap1] w fun e w' => e = .returned (.bool true) ∧ Below w.heap.size w w' := by
  obtain ⟨l, rfl, hC, hcap, hcm, hwf, hnn⟩ := row_in w1
  have ha0 := wf_u8' w0
  obtain ⟨N, rfl⟩ : ∃ N : Nat, a0 = (N : Int) := ⟨a0.toNat, by omega⟩
  have hN : N ≤ 255 := by omega
  have hb : ∀ x ∈ l, 0 ≤ x ∧ x ≤ 255 := fun x hx => wf_u8' (hwf x hx)
  have hbA := Aside0.mk hb
  have hCA := Aside0.mk hC
  clear w0 w1 z1 hb hC hwf hnn ha0
  go_enter Tryd.func3, Tryd.ntmps3
  go_wp2_with (fail)
  refine (new_ok _).mono ?_
  rintro e w1 ⟨g, rfl, hs1, hb1⟩
  have S1 := Aside0.mk (show BkOn w w1 g 0 0 1 from ⟨_, On.new (Below.refl _ w) hs1 hb1⟩)
  clear hb1 hs1
  go_wp2_with (fail)
  have ht1 := HT.below S1.out.b
  refine (alive_ok _ ht1.n ht1.u).mono ?_
  rintro e w3 ⟨rfl, hb3⟩
  have S3 := Aside0.mk (S1.out.below hb3)
  clear hb3 ht1 S1
  by_cases hbig : 60 < l.length
  · have h1 : (60 : Int) < (l.length : Int) := by omega
    have ht3 := HT.below S3.out.b
    go_wp2_with (fail)
    refine (alive_ok _ ht3.n ht3.u).mono ?_
    rintro e w4 ⟨rfl, hb4⟩
    have hfin := Aside0.mk (S3.out.below hb4).b
    clear hb4 ht3
    go_wp2_with (fail)
    go_ret
    exact ⟨rfl, hfin.out⟩
  · have h1 : (l.length : Int) ≤ 60 := by omega
    go_wp2_with (fail)
    go_loopw [6, 29] (fun v6 v29 wr => ∃ i : Nat, v6 = .string (xs i) ∧ v29 = .int .u8 i ∧ Aside0 (i ≤ N) ∧ Aside0 (BkOn w wr g i i (1 + i))) (fun _ v29 _ => N - (intOf v29).toNat)
    case atStart => exact ⟨0, rfl, rfl, ⟨Nat.zero_le _⟩, S3⟩
    case round =>
      obtain ⟨i, rfl, rfl, hi, hS⟩ := hrel
      have hi0 := hi.out
      by_cases hlt : i < N
      · have hlI : (i : Int) < (N : Int) := by omega
        have hb2 : Below wr.heap.size wr (wr.alloc (.cells #[.int .u8 120] 5)) := (Below.refl _ wr).alloc (Nat.le_refl _) _
        have HF := bkFeed_ok (hS.out.below hb2) HT (some ⟨wr.heap.size, 0, none⟩) 1 [120] (bk_x i) (lit_reads wr [120] 5 (0, 0) (by decide)) (by decide) (by decide) (by simp only [List.length_cons, List.length_nil]; omega)
        have hxz := xs_size i
        have hxs := Aside0.mk (xs_succ i)
        clear hS hb2
        generalize xs i = X at *
        go_wp2_with (fail)
        refine HF.mono ?_
        rintro e w5 ⟨rfl, S5⟩
        have S5 := Aside0.mk S5
        clear HF
        go_wp2_with (fail)
        refine ⟨⟨i + 1, by rw [hxs.out], rfl, ⟨by omega⟩, ⟨S5.out⟩⟩, ?_⟩
        simp [intOf]
        omega
      · have hE : i = N := by omega
        subst hE
        clear hi0
        generalize hxs : xs i = X at *
        have hxA := Aside0.mk hxs
        clear hxs
        clear S3
        go_wp2_with (fail)
        go_loopw [7, 41] (fun v7 v41 wr => ∃ c j : Nat, v7 = .int .i64 c ∧ v41 = .int .i64 j ∧ Aside0 (j ≤ l.length ∧ c ≤ i) ∧ Aside0 (BkOn w wr g i c (1 + i + 6 * j))) (fun _ v41 _ => l.length - (intOf v41).toNat)
        case atStart => exact ⟨i, 0, rfl, rfl, ⟨Nat.zero_le _, Nat.le_refl _⟩, hS⟩
        case round =>
          obtain ⟨c, j, rfl, rfl, hj, hS2⟩ := hrel
          obtain ⟨hj0, hc0⟩ := hj.out
          clear hS
          by_cases hlt2 : j < l.length
          · obtain ⟨ad, rfl, hcell⟩ := (Kd.reads_of_C (d := (0 : Int)) (C_later hCA.out hS2.out.b)).2.2 (by omega)
            have hcl := hcell j hlt2
            have hx := hbA.out (l.getD j 0) (by rw [List.getD_eq_getElem?_getD, List.getElem?_eq_getElem hlt2]; exact List.getElem_mem hlt2)
            have hjI : (j : Int) < (l.length : Int) := by omega
            clear hcell
            generalize l.getD j 0 = x at *
            obtain ⟨m, rfl⟩ : ∃ m : Nat, x = (m : Int) := ⟨x.toNat, by omega⟩
            go_wp2_with (fail)
            have hm255 : m ≤ 255 := by omega
            clear hcl hx hlt2
            go_loopw [11, 12] (fun v11 v12 wr2 => ∃ (k y : Nat) (cur : ByteArray), v11 = .string cur ∧ v12 = .int .i64 y ∧ Aside0 (y < 10 ^ k ∧ k ≤ 3 ∧ decF k y ++ cur.data.toList = decF 3 (1 + m) ∧ cur.size ≤ 3 - k) ∧ Aside0 (BkOn w wr2 g i c (1 + i + 6 * j))) (fun _ v12 _ => (intOf v12).toNat)
            case atStart => exact ⟨3, 1 + m, ⟨#[]⟩, rfl, by push_cast; rfl, ⟨by omega, by omega, by simp, by decide⟩, hS2⟩
            case round =>
              obtain ⟨k, y, cur, rfl, rfl, hk, hS3⟩ := hrel
              obtain ⟨hk1, hk2, hk3, hk4⟩ := hk.out
              have hk3 := Aside0.mk hk3
              have hy999 : y < 1000 := Nat.lt_of_lt_of_le hk1 (Nat.pow_le_pow_right (by decide) hk2)
              have hyd : wrap64 ((y : Int) / 10) = ((y / 10 : Nat) : Int) := by unfold wrap64; omega
              by_cases hy : 0 < y
              · have hyI : (0 : Int) < (y : Int) := by omega
                have hcv := run_convert_bytes_arg (P := Tryd.prog) (wr.alloc (.cells #[.int .u8 (48 + (y : Int) % 10)] 5)) 22 5 Tryd.underlying22 Tryd.underlying5 wr.heap.size 0 1 1 [48 + (y : Int) % 10] rfl (fun i hi => by
                  have : i = 0 := by omega
                  subst this
                  exact (blk_cell (heap_alloc_new wr _) 0).trans rfl) 9 Tryd.underlying9
                have hds := digit_str y
                have hdl : (strOfNums [48 + (y : Int) % 10]).size = 1 := by
                  have := congrArg List.length hds
                  rw [Array.length_toList] at this
                  exact this
                have hb2 : Below wr.heap.size wr (wr.alloc (.cells #[.int .u8 (48 + (y : Int) % 10)] 5)) := (Below.refl _ wr).alloc (Nat.le_refl _) _
                have hS4 := Aside0.mk (hS3.out.below hb2)
                clear hS3 hb2
                obtain ⟨k', rfl⟩ : ∃ k', k = k' + 1 := ⟨k - 1, by
                  have : k ≠ 0 := fun e => by subst e; simp at hk1; omega
                  omega⟩
                have hdA := Aside0.mk hds
                clear hds
                generalize strOfNums [48 + (y : Int) % 10] = D at *
                go_wp2_with (fail)
                refine ⟨⟨k', y / 10, D ++ cur, rfl, by first | rfl | (rw [hyd]), ⟨?_, by omega, ?_, ?_⟩, hS4⟩, ?_⟩
                · rw [Nat.pow_succ] at hk1
                  omega
                · rw [← hk3.out, decF_succ k' y (by omega)]
                  simp [hdA.out]
                · rw [ByteArray.size_append, hdl]; omega
                · try rw [hyd]
                  simp [intOf]
                  omega
              · have hy0 : y = 0 := by omega
                subst hy0
                rw [decF_zero, List.nil_append] at hk3
                have hcur := hk3.out
                have hconv := fun (w : World) => Lib.run_convert_string_bytes (P := Tryd.prog) w 9 22 5 (⟨#[27, 91]⟩ ++ cur ++ ⟨#[68]⟩) Tryd.underlying9 Tryd.underlying22 Tryd.underlying5
                have hsb : (⟨#[27, 91]⟩ ++ cur ++ ⟨#[68]⟩ : ByteArray).data.toList.map (fun (b : UInt8) => (b.toNat : Int)) = backSeq (1 + m) := by
                  unfold backSeq
                  rw [← hcur]
                  simp
                have hsz : (⟨#[27, 91]⟩ ++ cur ++ ⟨#[68]⟩ : ByteArray).size ≤ 6 := by
                  rw [ByteArray.size_append, ByteArray.size_append]
                  have : (⟨#[27, 91]⟩ : ByteArray).size = 2 := rfl
                  have : (⟨#[68]⟩ : ByteArray).size = 1 := rfl
                  omega
                have hlen : (backSeq (1 + m)).length = (⟨#[27, 91]⟩ ++ cur ++ ⟨#[68]⟩ : ByteArray).size := by
                  rw [← hsb, List.length_map]
                  exact Array.length_toList
                have hC2 := bytesS_C wr 5 (⟨#[27, 91]⟩ ++ cur ++ ⟨#[68]⟩) (backSeq (1 + m)) hsb (by omega)
                have hcap2 := grownCap_ge wr (⟨#[27, 91]⟩ ++ cur ++ ⟨#[68]⟩ : ByteArray).size 0 5
                have hbyte : ∀ x ∈ backSeq (1 + m), 0 ≤ x ∧ x ≤ 255 := by
                  intro x hx
                  rw [← hsb] at hx
                  obtain ⟨b, _, rfl⟩ := List.mem_map.1 hx
                  have := b.toNat_lt
                  omega
                have HF := bkFeed_ok (hS3.out.below (Lib.bytesWorld_below wr 5 (⟨#[27, 91]⟩ ++ cur ++ ⟨#[68]⟩))) HT (some ⟨wr.heap.size, 0, none⟩) (grownCap wr (⟨#[27, 91]⟩ ++ cur ++ ⟨#[68]⟩ : ByteArray).size 0 5) (backSeq (1 + m)) (bk_back i c (1 + m) (by omega) (by omega)) hC2 (by omega) hbyte (by omega)
                rw [hlen] at HF
                have hczI : (((c - (1 + m) : Nat) : Int)) = max 0 ((c : Int) - (1 + (m : Int))) := by omega
                have hxA2 := hxA
                have hczA := Aside0.mk hczI
                clear hC2 hcap2 hbyte hlen hsb hcur hk hk1 hS3 hczI
                generalize hs0 : (⟨#[27, 91]⟩ ++ cur ++ ⟨#[68]⟩ : ByteArray) = s at *
                go_wp2_with (fail)
                refine HF.mono ?_
                rintro e w5 ⟨rfl, S5⟩
                have S5 := Aside0.mk (S5.up (show 1 + i + 6 * j + s.size ≤ 1 + i + 6 * (j + 1) by omega))
                clear HF hconv
                generalize hcz : c - (1 + m) = c' at *
                have hcz2 : max 0 ((c : Int) - (1 + (m : Int))) = (c' : Int) := hczA.out.symm
                have hcle : c' ≤ i := by omega
                clear hcz hczA
                go_wp2_with (fail)
                refine (bkPlace_ok S5.out).mono ?_
                rintro e w6 ⟨rfl, hb6⟩
                have S6 := Aside0.mk (S5.out.below hb6)
                clear hb6 S5
                go_wp2_with (fail)
                have R := bkRow_ok S6.out (by omega)
                rw [hxA2.out] at R
                refine R.mono ?_
                rintro e w7 ⟨rfl, hb7⟩
                have S7 := Aside0.mk (S6.out.below hb7)
                clear hb7 S6 R
                go_wp2_with (fail)
                refine ⟨⟨c', j + 1, rfl, rfl, ⟨by omega, by omega⟩, S7⟩, ?_⟩
                simp [intOf]
                omega
          · have hjI : (l.length : Int) ≤ (j : Int) := by omega
            go_wp2_with (fail)
            refine (bkOdd_ok hS2.out).mono ?_
            rintro e w9 ⟨rfl, hb9⟩
            have hfin := Aside0.mk (hS2.out.below hb9).b
            clear hb9 hS2
            go_wp2_with (fail)
            go_ret
            exact ⟨rfl, hfin.out⟩
end Go.Proofs.YtmdeehblmkpddaaDoor.Hand
