/-
  DERIVED. GIVEN WITH THE SEED: THE CARDS: each row of YtgdbkgjnonodjaaDoorRows.lean that lists a variable, with what it lists TIED to the program's text (the seventh form; the later family's looks); each row that meets fmt, with fmt's text TOLD by the authors' own Lean function (tested against real Go, not proved from fmt's source: count such statements apart). THE CARD IS WHAT COUNTS. Prove the row's statement (the work); the ties are given (YtgdbkgjnonodjaaDoorTie.lean); close each card by the builder's one call (the guide's Derived/Test/ToyasCard.lean, 'card_holds'). Laid BY PROGRAM, IN A SANDBOX (cutbox-door.mjs). By AI agents, Wed Nov 11 2026. No macro, syntax, notation, axiom, sorry.
-/
import Derived.Test.YtgdbkgjnonodjaaDoorRows
import GoSem.ClaimSeven
namespace Go.Proofs.YtgdbkgjnonodjaaDoor
namespace Rows

/-- THE TIED CARD OF 'whispererlaw06.AttrsTexts'. -/
def attrsTextsCard : Claim7 := { stood := { row := attrsTextsRow, standIns := [], harness := (true, "379a49d7b42984a018987e68a66075423009d12ffe09379ca5fb2c0598613413"), looks := true }, kinds := [], alts := [], laidByText := true, laidKinds := [.data, .data, .data, .data, .sentinel, .sentinel, .widerDeep, .pinned], laidTests := true, laidLooks := .later }
def AttrsTextsCardSaid : Prop := Claim7.holds Tryd.pinned (.plain (OpenSpec.ofChange attrsTextsSpec)) attrsTextsCard

/-- THE TIED CARD OF 'whispererlaw06.AttrsBack'. -/
def attrsBackCard : Claim7 := { stood := { row := attrsBackRow, standIns := [], harness := (true, "379a49d7b42984a018987e68a66075423009d12ffe09379ca5fb2c0598613413"), looks := true }, kinds := [], alts := [], laidByText := true, laidKinds := [.data, .data, .data, .data, .sentinel, .sentinel, .widerDeep, .pinned], laidTests := true, laidLooks := .later }
def AttrsBackCardSaid : Prop := Claim7.holds Tryd.pinned (.plain (OpenSpec.ofChange attrsBackSpec)) attrsBackCard

/-- THE TIED CARD OF 'whispererlaw06.AttrsFlagless'. -/
def attrsFlaglessCard : Claim7 := { stood := { row := attrsFlaglessRow, standIns := [], harness := (true, "379a49d7b42984a018987e68a66075423009d12ffe09379ca5fb2c0598613413"), looks := true }, kinds := [], alts := [], laidByText := true, laidKinds := [.data, .data, .data, .data, .sentinel, .sentinel, .widerDeep, .pinned], laidTests := true, laidLooks := .later }
def AttrsFlaglessCardSaid : Prop := Claim7.holds Tryd.pinned (.plain (OpenSpec.ofChange attrsFlaglessSpec)) attrsFlaglessCard

/-- THE TIED CARD OF 'whispererlaw06.AttrsRaw'. -/
def attrsRawCard : Claim7 := { stood := { row := attrsRawRow, standIns := [], harness := (true, "379a49d7b42984a018987e68a66075423009d12ffe09379ca5fb2c0598613413"), looks := true }, kinds := [], alts := [], laidByText := true, laidKinds := [.data, .data, .data, .data, .sentinel, .sentinel, .widerDeep, .pinned], laidTests := true, laidLooks := .later }
def AttrsRawCardSaid : Prop := Claim7.holds Tryd.pinned (.plain (OpenSpec.ofChange attrsRawSpec)) attrsRawCard

/-- THE TIED CARD OF 'whispererlaw06.AttrsWith'. -/
def attrsWithCard : Claim7 := { stood := { row := attrsWithRow, standIns := [], harness := (true, "379a49d7b42984a018987e68a66075423009d12ffe09379ca5fb2c0598613413"), looks := true }, kinds := [], alts := [], laidByText := true, laidKinds := [.data, .data, .data, .data, .sentinel, .sentinel, .widerDeep, .pinned], laidTests := true, laidLooks := .later }
def AttrsWithCardSaid : Prop := Claim7.holds Tryd.pinned (.plain (OpenSpec.ofChange attrsWithSpec)) attrsWithCard

/-- THE TIED CARD OF 'whispererlaw06.AttrsNames'. -/
def attrsNamesCard : Claim7 := { stood := { row := attrsNamesRow, standIns := [], harness := (true, "379a49d7b42984a018987e68a66075423009d12ffe09379ca5fb2c0598613413"), looks := true }, kinds := [], alts := [], laidByText := true, laidKinds := [.data, .data, .data, .data, .sentinel, .sentinel, .widerDeep, .pinned], laidTests := true, laidLooks := .later }
def AttrsNamesCardSaid : Prop := Claim7.holds Tryd.pinned (.plain (OpenSpec.ofChange attrsNamesSpec)) attrsNamesCard

/-- THE TIED CARD OF 'whispererlaw06.AttrsFlags'. -/
def attrsFlagsCard : Claim7 := { stood := { row := attrsFlagsRow, standIns := [], harness := (true, "379a49d7b42984a018987e68a66075423009d12ffe09379ca5fb2c0598613413"), looks := true }, kinds := [], alts := [], laidByText := true, laidKinds := [.data, .data, .data, .data, .sentinel, .sentinel, .widerDeep, .pinned], laidTests := true, laidLooks := .later }
def AttrsFlagsCardSaid : Prop := Claim7.holds Tryd.pinned (.plain (OpenSpec.ofChange attrsFlagsSpec)) attrsFlagsCard

/-- THE SECOND FORM's CARD OF 'whispererlaw06.AttrsTexts'. -/
def attrsTextsUptoCard : Claim7 := { stood := { row := attrsTextsUptoRow, standIns := [], harness := (true, "379a49d7b42984a018987e68a66075423009d12ffe09379ca5fb2c0598613413"), looks := true }, kinds := [], alts := [], laidByText := true, laidKinds := [.data, .data, .data, .data, .sentinel, .sentinel, .widerDeep, .pinned], laidTests := true, laidLooks := .later }
def AttrsTextsUptoCardSaid : Prop := Claim7.holds Tryd.pinned (.plain (OpenSpec.upto attrsTextsSpec)) attrsTextsUptoCard

/-- THE SECOND FORM's CARD OF 'whispererlaw06.AttrsBack'. -/
def attrsBackUptoCard : Claim7 := { stood := { row := attrsBackUptoRow, standIns := [], harness := (true, "379a49d7b42984a018987e68a66075423009d12ffe09379ca5fb2c0598613413"), looks := true }, kinds := [], alts := [], laidByText := true, laidKinds := [.data, .data, .data, .data, .sentinel, .sentinel, .widerDeep, .pinned], laidTests := true, laidLooks := .later }
def AttrsBackUptoCardSaid : Prop := Claim7.holds Tryd.pinned (.plain (OpenSpec.upto attrsBackSpec)) attrsBackUptoCard

/-- THE SECOND FORM's CARD OF 'whispererlaw06.AttrsFlagless'. -/
def attrsFlaglessUptoCard : Claim7 := { stood := { row := attrsFlaglessUptoRow, standIns := [], harness := (true, "379a49d7b42984a018987e68a66075423009d12ffe09379ca5fb2c0598613413"), looks := true }, kinds := [], alts := [], laidByText := true, laidKinds := [.data, .data, .data, .data, .sentinel, .sentinel, .widerDeep, .pinned], laidTests := true, laidLooks := .later }
def AttrsFlaglessUptoCardSaid : Prop := Claim7.holds Tryd.pinned (.plain (OpenSpec.upto attrsFlaglessSpec)) attrsFlaglessUptoCard

/-- THE SECOND FORM's CARD OF 'whispererlaw06.AttrsRaw'. -/
def attrsRawUptoCard : Claim7 := { stood := { row := attrsRawUptoRow, standIns := [], harness := (true, "379a49d7b42984a018987e68a66075423009d12ffe09379ca5fb2c0598613413"), looks := true }, kinds := [], alts := [], laidByText := true, laidKinds := [.data, .data, .data, .data, .sentinel, .sentinel, .widerDeep, .pinned], laidTests := true, laidLooks := .later }
def AttrsRawUptoCardSaid : Prop := Claim7.holds Tryd.pinned (.plain (OpenSpec.upto attrsRawSpec)) attrsRawUptoCard

/-- THE SECOND FORM's CARD OF 'whispererlaw06.AttrsWith'. -/
def attrsWithUptoCard : Claim7 := { stood := { row := attrsWithUptoRow, standIns := [], harness := (true, "379a49d7b42984a018987e68a66075423009d12ffe09379ca5fb2c0598613413"), looks := true }, kinds := [], alts := [], laidByText := true, laidKinds := [.data, .data, .data, .data, .sentinel, .sentinel, .widerDeep, .pinned], laidTests := true, laidLooks := .later }
def AttrsWithUptoCardSaid : Prop := Claim7.holds Tryd.pinned (.plain (OpenSpec.upto attrsWithSpec)) attrsWithUptoCard

/-- THE SECOND FORM's CARD OF 'whispererlaw06.AttrsNames'. -/
def attrsNamesUptoCard : Claim7 := { stood := { row := attrsNamesUptoRow, standIns := [], harness := (true, "379a49d7b42984a018987e68a66075423009d12ffe09379ca5fb2c0598613413"), looks := true }, kinds := [], alts := [], laidByText := true, laidKinds := [.data, .data, .data, .data, .sentinel, .sentinel, .widerDeep, .pinned], laidTests := true, laidLooks := .later }
def AttrsNamesUptoCardSaid : Prop := Claim7.holds Tryd.pinned (.plain (OpenSpec.upto attrsNamesSpec)) attrsNamesUptoCard

/-- THE SECOND FORM's CARD OF 'whispererlaw06.AttrsFlags'. -/
def attrsFlagsUptoCard : Claim7 := { stood := { row := attrsFlagsUptoRow, standIns := [], harness := (true, "379a49d7b42984a018987e68a66075423009d12ffe09379ca5fb2c0598613413"), looks := true }, kinds := [], alts := [], laidByText := true, laidKinds := [.data, .data, .data, .data, .sentinel, .sentinel, .widerDeep, .pinned], laidTests := true, laidLooks := .later }
def AttrsFlagsUptoCardSaid : Prop := Claim7.holds Tryd.pinned (.plain (OpenSpec.upto attrsFlagsSpec)) attrsFlagsUptoCard
end Rows
end Go.Proofs.YtgdbkgjnonodjaaDoor
