/- The contract of escseq.known: a new map that reads as the fifteen sequences. -/
import Derived.Test.YtmdeehblmkpddaaDoorHandMap
import Derived.Lib.Hide
namespace Go.Proofs.YtmdeehblmkpddaaDoor.Hand
open Go.RowKit Go.Maps Go.WideShapes Go.ChangeMaps Go.WideMaps
set_option linter.unusedVariables false
set_option linter.unusedSimpArgs false

/-- The fifteen sequences and their keys. -/
def seqs : List (List UInt8 × Int) := [([27, 91, 67], 5), ([27, 79, 67], 5), ([27, 91, 68], 4), ([27, 79, 68], 4), ([27, 91, 72], 6), ([27, 79, 72], 6), ([27, 91, 49, 126], 6), ([27, 91, 55, 126], 6), ([27, 91, 70], 7), ([27, 79, 70], 7), ([27, 91, 52, 126], 7), ([27, 91, 56, 126], 7), ([27, 91, 51, 126], 3), ([27, 91, 50, 48, 48, 126], 13), ([27, 91, 50, 48, 49, 126], 14)]
def seqLits : List (Lit × Int) := seqs.map (fun p => (.string p.1, p.2))
/-- The key of a whole sequence. -/
def kindL (s : List UInt8) : Option Int := (seqs.find? (fun p => p.1 == s)).map (·.2)
theorem findLit_seq (s : List UInt8) : findLit seqLits (.string s) = kindL s := by
  unfold findLit kindL seqLits
  rw [List.find?_map, Option.map_map]
  rfl
theorem seq_keys : ∀ p ∈ seqLits, WideAt.IsKeyLit p.1 := by
  intro p hp
  obtain ⟨q, _, rfl⟩ := List.mem_map.1 hp
  trivial
theorem seq_apart : seqLits.Pairwise (fun p q => p.1 ≠ q.1) := by
  unfold seqLits
  rw [List.pairwise_map]
  exact (show seqs.Pairwise (fun p q => p.1 ≠ q.1) by decide +kernel).imp (fun h e => h (by injection e))

theorem strKey : Keyed Tryd.prog 9 := string_keyed Tryd.underlying9

set_option maxHeartbeats 4000000 in
set_option maxRecDepth 100000 in
theorem known_any (w : World) : Calls Tryd.prog 69 #[] w fun e w' =>
    e = .returned (.map (some w.heap.size)) ∧ w'.ownsMap (H := Unit) Tryd.prog 9 (plainElem Tryd.prog 3) w.heap.size 15 (litMap seqLits) ∧ Below w.heap.size w w' := by
  have hmm := @run_makeMap Tryd.prog
  have h0 := World.ownsMap_made (H := Unit) w Tryd.prog 9 (plainElem Tryd.prog 3)
  have b0 := (Below.refl w.heap.size w).alloc (Nat.le_refl _) (.map #[] 0)
  go_enter Tryd.func69, Tryd.ntmps69
  go_wp2_with (first
    | (refine wpList_insert_own _ rfl _ (.const (.string { data := #[27, 91, 67] })) _ 102 rfl 9 3 strKey Tryd.underlying102 _ w.heap.size 0 _ rfl h0 (by unfold maxLen; omega) _ _ _ rfl rfl (keyOf_string_mk Tryd.underlying9 (by decide +kernel)) _ [] (plainElem_int Tryd.underlying3 (by rfl)) ?_; intro w1 h1 g1; have b1 := b0.grown g1 b0.size (fun k hk => by cases hk; exact Nat.le_refl _))
    | (refine wpList_insert_own _ rfl _ (.const (.string { data := #[27, 79, 67] })) _ 102 rfl 9 3 strKey Tryd.underlying102 _ w.heap.size 1 _ rfl h1 (by unfold maxLen; omega) _ _ _ rfl rfl (keyOf_string_mk Tryd.underlying9 (by decide +kernel)) _ [] (plainElem_int Tryd.underlying3 (by rfl)) ?_; intro w2 h2 g2; have b2 := b1.grown g2 b1.size (fun k hk => by cases hk; exact Nat.le_refl _))
    | (refine wpList_insert_own _ rfl _ (.const (.string { data := #[27, 91, 68] })) _ 102 rfl 9 3 strKey Tryd.underlying102 _ w.heap.size 2 _ rfl h2 (by unfold maxLen; omega) _ _ _ rfl rfl (keyOf_string_mk Tryd.underlying9 (by decide +kernel)) _ [] (plainElem_int Tryd.underlying3 (by rfl)) ?_; intro w3 h3 g3; have b3 := b2.grown g3 b2.size (fun k hk => by cases hk; exact Nat.le_refl _))
    | (refine wpList_insert_own _ rfl _ (.const (.string { data := #[27, 79, 68] })) _ 102 rfl 9 3 strKey Tryd.underlying102 _ w.heap.size 3 _ rfl h3 (by unfold maxLen; omega) _ _ _ rfl rfl (keyOf_string_mk Tryd.underlying9 (by decide +kernel)) _ [] (plainElem_int Tryd.underlying3 (by rfl)) ?_; intro w4 h4 g4; have b4 := b3.grown g4 b3.size (fun k hk => by cases hk; exact Nat.le_refl _))
    | (refine wpList_insert_own _ rfl _ (.const (.string { data := #[27, 91, 72] })) _ 102 rfl 9 3 strKey Tryd.underlying102 _ w.heap.size 4 _ rfl h4 (by unfold maxLen; omega) _ _ _ rfl rfl (keyOf_string_mk Tryd.underlying9 (by decide +kernel)) _ [] (plainElem_int Tryd.underlying3 (by rfl)) ?_; intro w5 h5 g5; have b5 := b4.grown g5 b4.size (fun k hk => by cases hk; exact Nat.le_refl _))
    | (refine wpList_insert_own _ rfl _ (.const (.string { data := #[27, 79, 72] })) _ 102 rfl 9 3 strKey Tryd.underlying102 _ w.heap.size 5 _ rfl h5 (by unfold maxLen; omega) _ _ _ rfl rfl (keyOf_string_mk Tryd.underlying9 (by decide +kernel)) _ [] (plainElem_int Tryd.underlying3 (by rfl)) ?_; intro w6 h6 g6; have b6 := b5.grown g6 b5.size (fun k hk => by cases hk; exact Nat.le_refl _))
    | (refine wpList_insert_own _ rfl _ (.const (.string { data := #[27, 91, 49, 126] })) _ 102 rfl 9 3 strKey Tryd.underlying102 _ w.heap.size 6 _ rfl h6 (by unfold maxLen; omega) _ _ _ rfl rfl (keyOf_string_mk Tryd.underlying9 (by decide +kernel)) _ [] (plainElem_int Tryd.underlying3 (by rfl)) ?_; intro w7 h7 g7; have b7 := b6.grown g7 b6.size (fun k hk => by cases hk; exact Nat.le_refl _))
    | (refine wpList_insert_own _ rfl _ (.const (.string { data := #[27, 91, 55, 126] })) _ 102 rfl 9 3 strKey Tryd.underlying102 _ w.heap.size 7 _ rfl h7 (by unfold maxLen; omega) _ _ _ rfl rfl (keyOf_string_mk Tryd.underlying9 (by decide +kernel)) _ [] (plainElem_int Tryd.underlying3 (by rfl)) ?_; intro w8 h8 g8; have b8 := b7.grown g8 b7.size (fun k hk => by cases hk; exact Nat.le_refl _))
    | (refine wpList_insert_own _ rfl _ (.const (.string { data := #[27, 91, 70] })) _ 102 rfl 9 3 strKey Tryd.underlying102 _ w.heap.size 8 _ rfl h8 (by unfold maxLen; omega) _ _ _ rfl rfl (keyOf_string_mk Tryd.underlying9 (by decide +kernel)) _ [] (plainElem_int Tryd.underlying3 (by rfl)) ?_; intro w9 h9 g9; have b9 := b8.grown g9 b8.size (fun k hk => by cases hk; exact Nat.le_refl _))
    | (refine wpList_insert_own _ rfl _ (.const (.string { data := #[27, 79, 70] })) _ 102 rfl 9 3 strKey Tryd.underlying102 _ w.heap.size 9 _ rfl h9 (by unfold maxLen; omega) _ _ _ rfl rfl (keyOf_string_mk Tryd.underlying9 (by decide +kernel)) _ [] (plainElem_int Tryd.underlying3 (by rfl)) ?_; intro w10 h10 g10; have b10 := b9.grown g10 b9.size (fun k hk => by cases hk; exact Nat.le_refl _))
    | (refine wpList_insert_own _ rfl _ (.const (.string { data := #[27, 91, 52, 126] })) _ 102 rfl 9 3 strKey Tryd.underlying102 _ w.heap.size 10 _ rfl h10 (by unfold maxLen; omega) _ _ _ rfl rfl (keyOf_string_mk Tryd.underlying9 (by decide +kernel)) _ [] (plainElem_int Tryd.underlying3 (by rfl)) ?_; intro w11 h11 g11; have b11 := b10.grown g11 b10.size (fun k hk => by cases hk; exact Nat.le_refl _))
    | (refine wpList_insert_own _ rfl _ (.const (.string { data := #[27, 91, 56, 126] })) _ 102 rfl 9 3 strKey Tryd.underlying102 _ w.heap.size 11 _ rfl h11 (by unfold maxLen; omega) _ _ _ rfl rfl (keyOf_string_mk Tryd.underlying9 (by decide +kernel)) _ [] (plainElem_int Tryd.underlying3 (by rfl)) ?_; intro w12 h12 g12; have b12 := b11.grown g12 b11.size (fun k hk => by cases hk; exact Nat.le_refl _))
    | (refine wpList_insert_own _ rfl _ (.const (.string { data := #[27, 91, 51, 126] })) _ 102 rfl 9 3 strKey Tryd.underlying102 _ w.heap.size 12 _ rfl h12 (by unfold maxLen; omega) _ _ _ rfl rfl (keyOf_string_mk Tryd.underlying9 (by decide +kernel)) _ [] (plainElem_int Tryd.underlying3 (by rfl)) ?_; intro w13 h13 g13; have b13 := b12.grown g13 b12.size (fun k hk => by cases hk; exact Nat.le_refl _))
    | (refine wpList_insert_own _ rfl _ (.const (.string { data := #[27, 91, 50, 48, 48, 126] })) _ 102 rfl 9 3 strKey Tryd.underlying102 _ w.heap.size 13 _ rfl h13 (by unfold maxLen; omega) _ _ _ rfl rfl (keyOf_string_mk Tryd.underlying9 (by decide +kernel)) _ [] (plainElem_int Tryd.underlying3 (by rfl)) ?_; intro w14 h14 g14; have b14 := b13.grown g14 b13.size (fun k hk => by cases hk; exact Nat.le_refl _))
    | (refine wpList_insert_own _ rfl _ (.const (.string { data := #[27, 91, 50, 48, 49, 126] })) _ 102 rfl 9 3 strKey Tryd.underlying102 _ w.heap.size 14 _ rfl h14 (by unfold maxLen; omega) _ _ _ rfl rfl (keyOf_string_mk Tryd.underlying9 (by decide +kernel)) _ [] (plainElem_int Tryd.underlying3 (by rfl)) ?_; intro w15 h15 g15; have b15 := b14.grown g15 b14.size (fun k hk => by cases hk; exact Nat.le_refl _)))
  have H := Lib.hid h15
  clear h15 h1 g1 h2 g2 h3 g3 h4 g4 h5 g5 h6 g6 h7 g7 h8 g8 h9 g9 h10 g10 h11 g11 h12 g12 h13 g13 h14 g14 g15 h0 hmm b0 b1 b2 b3 b4 b5 b6 b7 b8 b9 b10 b11 b12 b13 b14
  go_wp2
  go_ret
  exact ⟨rfl, H.out, b15⟩

theorem look_seq {w : World} {b : Nat} (hown : w.ownsMap (H := Unit) Tryd.prog 9 (plainElem Tryd.prog 3) b 15 (litMap seqLits)) (s : ByteArray) (hs : s.size ≤ maxLen) :
    (Instr.lookup 102 (.map (some b)) (.string s) true).run Tryd.prog w = .ok (.tuple #[.int .i64 ((kindL s.data.toList).getD 0), .bool (kindL s.data.toList).isSome]) w := by
  rw [look_lit hown seq_keys seq_apart strKey Tryd.underlying102 Tryd.underlying3 (by kernel_rfl) (keyOf_string_mk Tryd.underlying9 hs), findLit_seq]
end Go.Proofs.YtmdeehblmkpddaaDoor.Hand
