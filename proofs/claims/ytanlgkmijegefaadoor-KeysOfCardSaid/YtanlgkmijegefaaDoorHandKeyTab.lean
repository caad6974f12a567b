/- What the seat's contracts ask of the tables; keys.Text in the print's shape. -/
import Derived.Test.YtanlgkmijegefaaDoorHandKeyText
import Derived.Lib.SmallJoins
import Derived.Lib.ItoaLen
namespace Go.Proofs.YtanlgkmijegefaaDoor.Hand
open Go.RowKit Go.Maps Go.WideShapes Go.WideMaps Go.ChangeMaps Go.Proofs.YtanlgkmijegefaaDoorW.PrintWords Go.Proofs.YtanlgkmijegefaaDoorW.PrintLast Go.Proofs.YtanlgkmijegefaaDoor.Pcheck
set_option linter.unusedVariables false
set_option linter.unusedSimpArgs false

theorem gPow : Tryd.prog.globalNamed "internal/strconv.uint64pow10" = some 6 := by kernel_rfl

/-- What is in one cell of a package-level variable is nil or some interface value. -/
def ErrIn (w : World) (g : Nat) : Prop := ∃ ev, w.cell? ⟨g, 0, none⟩ = some ev ∧ (ev = .nilIface ∨ ∃ te pe, ev = .iface te pe)
theorem ErrIn.below {w W : World} {g : Nat} (h : ErrIn w g) (hb : Below w.heap.size w W) : ErrIn W g := by
  obtain ⟨ev, h1, h2⟩ := h
  exact ⟨ev, keepC h1 hb, h2⟩
/-- The world holds the tables that the rows list, and what its shape tells of the rest. -/
structure Tab (w : World) : Prop where
  nm : NamesIn w
  mx : ∃ m, w.cell? ⟨3, 0, none⟩ = some (.int .i64 m)
  pow : Lib.TabIs Tryd.prog w "internal/strconv.uint64pow10" .u64 Lib.pow10Tab
  es : ErrIn w 4
  er : ErrIn w 5
theorem Tab.pos {w : World} (h : Tab w) : 0 < w.heap.size := World.block_lt_of_cell? w _ (h.nm 0 (by decide))
theorem Tab.below {w W : World} (h : Tab w) (hb : Below w.heap.size w W) : Tab W :=
  ⟨h.nm.below hb h.pos, by obtain ⟨m, hm⟩ := h.mx; exact ⟨m, keepC hm hb⟩, Joins.tab_stays gPow h.pow hb (Nat.le_refl _), h.es.below hb, h.er.below hb⟩

theorem wf_i64 {n : Int} (h : (Lit.int .i64 n).wf = true) : -9223372036854775808 ≤ n ∧ n ≤ 9223372036854775807 := by
  have h1 : (decide (IntKind.i64.min ≤ n) && decide (n ≤ IntKind.i64.max)) = true := h
  have e1 : IntKind.i64.min = -9223372036854775808 := by decide
  have e2 : IntKind.i64.max = 9223372036854775807 := by decide
  rw [e1, e2] at h1
  simpa using h1
def keys_Text.f (k : Nat) (a0_0 : Int) (a0_1 : Int) : Option (ByteArray × Int) :=
  if (Lit.int .i64 a0_1).wf = true then (keys_check.f k a0_0 a0_1).bind fun e => if e = 0 then (if a0_0 = 0 then some (nameB 0 ++ ⟨#[32]⟩ ++ ⟨(Lib.itoa a0_1).toArray⟩, 0) else if 1 ≤ a0_0 ∧ a0_0 < 16 then some (nameB a0_0.toNat, 0) else none) else some (⟨#[]⟩, e) else none
theorem keys_Text.mono : ∀ a0 a1 k, LeO (keys_Text.f k a0 a1) (keys_Text.f (k + 1) a0 a1) := by
  intro a0 a1 k
  unfold keys_Text.f
  split
  · exact LeO.bind (keys_check.mono _ _ _) (fun _ => LeO.refl _)
  · exact LeO.refl _
theorem itoa_size (c : Int) (h0 : -9223372036854775808 ≤ c) (h1 : c ≤ 9223372036854775807) : (⟨(Lib.itoa c).toArray⟩ : ByteArray).size ≤ 100 := by
  have := Lib.itoa_length_le c h0 h1
  show (Lib.itoa c).toArray.size ≤ 100
  simp
  omega
theorem keys_Text.calls (k : Nat) (a0_0 : Int) (a0_1 : Int) (r1 : ByteArray) (r2 : Int) (w : World) (HT : Tab w) (h : keys_Text.f k a0_0 a0_1 = some (r1, r2)) :
    Calls Tryd.prog 9 #[.agg #[.int .i64 a0_0, .int .i64 a0_1]] w fun e w' => e = .returned (.tuple #[.string r1, .int .i64 r2]) ∧ Below w.heap.size w w' := by
  show TextOk a0_0 a0_1 w r1 r2
  unfold keys_Text.f at h
  by_cases hwf : (Lit.int .i64 a0_1).wf = true
  · rw [if_pos hwf] at h
    obtain ⟨e0, hc0, h⟩ := Option.bind_eq_some_iff.mp h
    have hc : ChkOk a0_0 a0_1 e0 := fun w => keys_check.calls k a0_0 a0_1 e0 w hc0
    by_cases he : e0 = 0
    · subst he
      rw [if_pos rfl] at h
      by_cases h0 : a0_0 = 0
      · subst h0
        rw [if_pos rfl] at h
        obtain ⟨rfl, rfl⟩ := Prod.mk.inj (Option.some.inj h)
        have hb : -9223372036854775808 ≤ a0_1 ∧ a0_1 ≤ 9223372036854775807 := by
          exact wf_i64 hwf
        exact text_rune (nameB 0) ⟨(Lib.itoa a0_1).toArray⟩ (by decide) (itoa_size _ hb.1 hb.2) a0_1 hc w (HT.nm 0 (by decide)) (fun w' hb' => itoa_ok a0_1 hb.1 hb.2 w' (HT.below hb').pow)
      · rw [if_neg h0] at h
        by_cases h1 : 1 ≤ a0_0 ∧ a0_0 < 16
        · rw [if_pos h1] at h
          obtain ⟨rfl, rfl⟩ := Prod.mk.inj (Option.some.inj h)
          have hj : a0_0 = ((a0_0.toNat : Nat) : Int) := by omega
          have := text_other a0_0.toNat a0_1 (by omega) (by omega) (by rw [← hj]; exact hc) w HT.nm HT.pos
          rw [← hj] at this
          exact this
        · rw [if_neg h1] at h
          cases h
    · rw [if_neg he] at h
      obtain ⟨rfl, rfl⟩ := Prod.mk.inj (Option.some.inj h)
      exact text_err a0_0 a0_1 e0 (by simpa using he) hc w
  · rw [if_neg hwf] at h
    cases h

end Go.Proofs.YtanlgkmijegefaaDoor.Hand
