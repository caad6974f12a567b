/-
  No cell of these rows narrows 'for every input' (looked for: loops, veiled, ifaces, maps, wideKeys, modest, calm, conditions, laid).
  DERIVED. THE GIVEN ROWS OF THIS SEAT. 6 by the template 'for every input the law returns true; each argument reads behind the call as it read before'; 0 by the template 'total and deterministic' (their statements: YtjlfpkgnkgbhiaaTotals.lean).
  GIVEN WITH THE SEED: the statements are not yours to turn. If you find one false, say at which input.
  Laid BY PROGRAM, IN A SANDBOX (cutbox-rows.mjs): the forced cells as the released guide's own fill.sh prints them over the translation 1e8098796acf7931… (all of the seat's roots in one cut). By AI agents, Wed Nov 11 2026. No macro, syntax, notation, axiom, sorry.
-/
import Derived.Test.YtjlfpkgnkgbhiaaChecked
import GoSem.Claim
import GoSem.ClaimJoined
import GoSem.ClaimMapViews
import Derived.JoinedTies
import Derived.KernelRfl
namespace Go.Proofs.Ytjlfpkgnkgbhiaa
/- THE CELL 'sum', in the pinned program and in every row, IS THE sha256 OF THE DUMP (.gsa) THAT YtjlfpkgnkgbhiaaProg.lean LOADS. Nothing in Lean hashes anything: it is a label: what it is worth is what the hold of that sum in a sandbox is worth. -/
noncomputable def Try.pinned : Pinned := { name := "ytjlfpkgnkgbhiaa", sum := "1e8098796acf79311dc25acf5ad9815caef2128e06e42a97235f70b28b476d4d", checked := Try.checked }
namespace Rows
def none {H : Type} : Left H := { results := [], args := [] }

/-- 'whispererlaw09.EscseqBehind': WHATEVER THE INPUT: true; the input reads as it did. -/
def escseqBehindSpec : ChangeSpec := { name := "escseqBehind", fn := fun _ => fun
  | [d1, d2] => { results := [.lit (.bool true)], args := [d1, d2] }
  | _ => none }
def escseqBehindRow : OpenClaim := { program := "ytjlfpkgnkgbhiaa", sum := "1e8098796acf79311dc25acf5ad9815caef2128e06e42a97235f70b28b476d4d", func := "whisperer/whispererlaw09.EscseqBehind", spec := "escseqBehind", apart := false }
def EscseqBehindSaid : Prop := escseqBehindRow.holds Try.pinned (OpenSpec.ofChange escseqBehindSpec)

/-- ITS FALSE NEIGHBOUR: 'it returns false'. Refute it at one input. -/
def escseqBehindWrong : ChangeSpec := { name := "escseqBehind", fn := fun _ => fun
  | [d1, d2] => { results := [.lit (.bool false)], args := [d1, d2] }
  | _ => none }
def EscseqBehindWrongFalsely : Prop := escseqBehindRow.holds Try.pinned (OpenSpec.ofChange escseqBehindWrong)

/-- 'whispererlaw09.EscseqOthers': WHATEVER THE INPUT: true; the input reads as it did. -/
def escseqOthersSpec : ChangeSpec := { name := "escseqOthers", fn := fun _ => fun
  | [d] => { results := [.lit (.bool true)], args := [d] }
  | _ => none }
def escseqOthersRow : OpenClaim := { program := "ytjlfpkgnkgbhiaa", sum := "1e8098796acf79311dc25acf5ad9815caef2128e06e42a97235f70b28b476d4d", func := "whisperer/whispererlaw09.EscseqOthers", spec := "escseqOthers", apart := false }
def EscseqOthersSaid : Prop := escseqOthersRow.holds Try.pinned (OpenSpec.ofChange escseqOthersSpec)

/-- ITS FALSE NEIGHBOUR: 'it returns false'. Refute it at one input. -/
def escseqOthersWrong : ChangeSpec := { name := "escseqOthers", fn := fun _ => fun
  | [d] => { results := [.lit (.bool false)], args := [d] }
  | _ => none }
def EscseqOthersWrongFalsely : Prop := escseqOthersRow.holds Try.pinned (OpenSpec.ofChange escseqOthersWrong)

/-- 'whispererlaw09.EscseqNexts': WHATEVER THE INPUT: true; the input reads as it did. -/
def escseqNextsSpec : ChangeSpec := { name := "escseqNexts", fn := fun _ => fun
  | [d] => { results := [.lit (.bool true)], args := [d] }
  | _ => none }
def escseqNextsRow : OpenClaim := { program := "ytjlfpkgnkgbhiaa", sum := "1e8098796acf79311dc25acf5ad9815caef2128e06e42a97235f70b28b476d4d", func := "whisperer/whispererlaw09.EscseqNexts", spec := "escseqNexts", apart := false }
def EscseqNextsSaid : Prop := escseqNextsRow.holds Try.pinned (OpenSpec.ofChange escseqNextsSpec)

/-- ITS FALSE NEIGHBOUR: 'it returns false'. Refute it at one input. -/
def escseqNextsWrong : ChangeSpec := { name := "escseqNexts", fn := fun _ => fun
  | [d] => { results := [.lit (.bool false)], args := [d] }
  | _ => none }
def EscseqNextsWrongFalsely : Prop := escseqNextsRow.holds Try.pinned (OpenSpec.ofChange escseqNextsWrong)

/-- 'whispererlaw09.EscseqLong': WHATEVER THE INPUT: true; the input reads as it did. -/
def escseqLongSpec : ChangeSpec := { name := "escseqLong", fn := fun _ => fun
  | [d1, d2, d3] => { results := [.lit (.bool true)], args := [d1, d2, d3] }
  | _ => none }
def escseqLongRow : OpenClaim := { program := "ytjlfpkgnkgbhiaa", sum := "1e8098796acf79311dc25acf5ad9815caef2128e06e42a97235f70b28b476d4d", func := "whisperer/whispererlaw09.EscseqLong", spec := "escseqLong", apart := false }
def EscseqLongSaid : Prop := escseqLongRow.holds Try.pinned (OpenSpec.ofChange escseqLongSpec)

/-- ITS FALSE NEIGHBOUR: 'it returns false'. Refute it at one input. -/
def escseqLongWrong : ChangeSpec := { name := "escseqLong", fn := fun _ => fun
  | [d1, d2, d3] => { results := [.lit (.bool false)], args := [d1, d2, d3] }
  | _ => none }
def EscseqLongWrongFalsely : Prop := escseqLongRow.holds Try.pinned (OpenSpec.ofChange escseqLongWrong)

/-- 'whispererlaw09.EscseqBytes': WHATEVER THE INPUT: true; the input reads as it did. -/
def escseqBytesSpec : ChangeSpec := { name := "escseqBytes", fn := fun _ => fun
  | [d1, d2] => { results := [.lit (.bool true)], args := [d1, d2] }
  | _ => none }
def escseqBytesRow : OpenClaim := { program := "ytjlfpkgnkgbhiaa", sum := "1e8098796acf79311dc25acf5ad9815caef2128e06e42a97235f70b28b476d4d", func := "whisperer/whispererlaw09.EscseqBytes", spec := "escseqBytes", apart := false }
def EscseqBytesSaid : Prop := escseqBytesRow.holds Try.pinned (OpenSpec.ofChange escseqBytesSpec)

/-- ITS FALSE NEIGHBOUR: 'it returns false'. Refute it at one input. -/
def escseqBytesWrong : ChangeSpec := { name := "escseqBytes", fn := fun _ => fun
  | [d1, d2] => { results := [.lit (.bool false)], args := [d1, d2] }
  | _ => none }
def EscseqBytesWrongFalsely : Prop := escseqBytesRow.holds Try.pinned (OpenSpec.ofChange escseqBytesWrong)

/-- 'whispererlaw09.EscseqKnown': WHATEVER THE INPUT: true; the input reads as it did. -/
def escseqKnownSpec : ChangeSpec := { name := "escseqKnown", fn := fun _ => fun
  | [d] => { results := [.lit (.bool true)], args := [d] }
  | _ => none }
def escseqKnownRow : OpenClaim := { program := "ytjlfpkgnkgbhiaa", sum := "1e8098796acf79311dc25acf5ad9815caef2128e06e42a97235f70b28b476d4d", func := "whisperer/whispererlaw09.EscseqKnown", spec := "escseqKnown", unfollowed := true, recurses := true, apart := false }
def EscseqKnownSaid : Prop := escseqKnownRow.holds Try.pinned (OpenSpec.ofChange escseqKnownSpec)

/-- ITS FALSE NEIGHBOUR: 'it returns false'. Refute it at one input. -/
def escseqKnownWrong : ChangeSpec := { name := "escseqKnown", fn := fun _ => fun
  | [d] => { results := [.lit (.bool false)], args := [d] }
  | _ => none }
def EscseqKnownWrongFalsely : Prop := escseqKnownRow.holds Try.pinned (OpenSpec.ofChange escseqKnownWrong)

/- THE SECOND FORM. 'bulk': how many values and letters a reading holds, each counted each time it is reached (what is shared counts as often as it is met; a slice's spare places count too). A statement '..UptoSaid' is the law's where the arguments, and the package variables that the reading takes, are together of bulk at most 1048576: NARROWER than '..Said'. Prove '..Said' where nothing that the law and all that it calls make is longer than what came in: it says more and counts as full. Else prove '..UptoSaid'. A law counts once. -/
mutual
def uptoBulk {H : Type} : DataW H → Nat
  | .lit (.string bytes) => bytes.length + 1
  | .lit _ => 1
  | .nil => 1
  | .ptr d => uptoBulk d + 1
  | .slice elems spare => uptoBulkAll elems + uptoBulkAll spare + 1
  | .agg parts => uptoBulkAll parts + 1
  | .iface _ d => uptoBulk d + 1
  | .map entries => uptoBulkEntries entries + 1
  | .held _ => 1
def uptoBulkAll {H : Type} : List (DataW H) → Nat
  | [] => 0
  | d :: r => uptoBulk d + uptoBulkAll r
def uptoBulkEntries {H : Type} : List (Lit × DataW H) → Nat
  | [] => 0
  | x :: r => uptoBulkEntry x + uptoBulkEntries r
def uptoBulkEntry {H : Type} : Lit × DataW H → Nat
  | (.string bytes, d) => bytes.length + uptoBulk d + 1
  | (_, d) => uptoBulk d + 1
 end
def uptoSmall : (H : Type) → List (DataW H) → Bool := fun _ ds => decide (uptoBulkAll ds ≤ 1048576)
def OpenSpec.upto (s : _root_.Go.ChangeSpec) : _root_.Go.OpenSpec := { _root_.Go.OpenSpec.ofChange s with cond := some uptoSmall }

/-- 'whispererlaw09.EscseqBehind', WHERE WHAT IT READS IS OF BULK AT MOST 1048576: true; the input reads as it did. -/
def escseqBehindUptoRow : OpenClaim := { program := "ytjlfpkgnkgbhiaa", sum := "1e8098796acf79311dc25acf5ad9815caef2128e06e42a97235f70b28b476d4d", func := "whisperer/whispererlaw09.EscseqBehind", spec := "escseqBehind", apart := false, narrowed := true }
def EscseqBehindUptoSaid : Prop := escseqBehindUptoRow.holds Try.pinned (OpenSpec.upto escseqBehindSpec)

/-- 'whispererlaw09.EscseqOthers', WHERE WHAT IT READS IS OF BULK AT MOST 1048576: true; the input reads as it did. -/
def escseqOthersUptoRow : OpenClaim := { program := "ytjlfpkgnkgbhiaa", sum := "1e8098796acf79311dc25acf5ad9815caef2128e06e42a97235f70b28b476d4d", func := "whisperer/whispererlaw09.EscseqOthers", spec := "escseqOthers", apart := false, narrowed := true }
def EscseqOthersUptoSaid : Prop := escseqOthersUptoRow.holds Try.pinned (OpenSpec.upto escseqOthersSpec)

/-- 'whispererlaw09.EscseqNexts', WHERE WHAT IT READS IS OF BULK AT MOST 1048576: true; the input reads as it did. -/
def escseqNextsUptoRow : OpenClaim := { program := "ytjlfpkgnkgbhiaa", sum := "1e8098796acf79311dc25acf5ad9815caef2128e06e42a97235f70b28b476d4d", func := "whisperer/whispererlaw09.EscseqNexts", spec := "escseqNexts", apart := false, narrowed := true }
def EscseqNextsUptoSaid : Prop := escseqNextsUptoRow.holds Try.pinned (OpenSpec.upto escseqNextsSpec)

/-- 'whispererlaw09.EscseqLong', WHERE WHAT IT READS IS OF BULK AT MOST 1048576: true; the input reads as it did. -/
def escseqLongUptoRow : OpenClaim := { program := "ytjlfpkgnkgbhiaa", sum := "1e8098796acf79311dc25acf5ad9815caef2128e06e42a97235f70b28b476d4d", func := "whisperer/whispererlaw09.EscseqLong", spec := "escseqLong", apart := false, narrowed := true }
def EscseqLongUptoSaid : Prop := escseqLongUptoRow.holds Try.pinned (OpenSpec.upto escseqLongSpec)

/-- 'whispererlaw09.EscseqBytes', WHERE WHAT IT READS IS OF BULK AT MOST 1048576: true; the input reads as it did. -/
def escseqBytesUptoRow : OpenClaim := { program := "ytjlfpkgnkgbhiaa", sum := "1e8098796acf79311dc25acf5ad9815caef2128e06e42a97235f70b28b476d4d", func := "whisperer/whispererlaw09.EscseqBytes", spec := "escseqBytes", apart := false, narrowed := true }
def EscseqBytesUptoSaid : Prop := escseqBytesUptoRow.holds Try.pinned (OpenSpec.upto escseqBytesSpec)

/-- 'whispererlaw09.EscseqKnown', WHERE WHAT IT READS IS OF BULK AT MOST 1048576: true; the input reads as it did. -/
def escseqKnownUptoRow : OpenClaim := { program := "ytjlfpkgnkgbhiaa", sum := "1e8098796acf79311dc25acf5ad9815caef2128e06e42a97235f70b28b476d4d", func := "whisperer/whispererlaw09.EscseqKnown", spec := "escseqKnown", unfollowed := true, recurses := true, apart := false, narrowed := true }
def EscseqKnownUptoSaid : Prop := escseqKnownUptoRow.holds Try.pinned (OpenSpec.upto escseqKnownSpec)

end Rows
end Go.Proofs.Ytjlfpkgnkgbhiaa
