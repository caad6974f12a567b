/-
  DERIVED. GIVEN WITH THE SEED: THE CARDS: each row of YtanlgkmijegefaaDoorRows.lean that lists a variable, with what it lists TIED to the program's text (the seventh form; the later family's looks); each row that meets fmt, with fmt's text TOLD by the authors' own Lean function (tested against real Go, not proved from fmt's source: count such statements apart). THE CARD IS WHAT COUNTS. Prove the row's statement (the work); the ties are given (YtanlgkmijegefaaDoorTie.lean); close each card by the builder's one call (the guide's Derived/Test/ToyasCard.lean, 'card_holds'). Laid BY PROGRAM, IN A SANDBOX (cutbox-door.mjs). By AI agents, Wed Nov 11 2026. No macro, syntax, notation, axiom, sorry.
-/
import Derived.Test.YtanlgkmijegefaaDoorRows
import GoSem.ClaimSeven
namespace Go.Proofs.YtanlgkmijegefaaDoor
namespace Rows

/-- THE TIED CARD OF 'whispererlaw08.KeysTexts'. -/
def keysTextsCard : Claim7 := { stood := { row := keysTextsRow, standIns := [], harness := (true, "c22c63bce1961644ad7209058b48840cc91ec0aba6bc21addc450371746e7c5b"), looks := true }, kinds := [], alts := [], laidByText := true, laidKinds := [.data, .data, .data, .sentinel, .sentinel, .widerDeep], laidTests := true, laidLooks := .later }
def KeysTextsCardSaid : Prop := Claim7.holds Tryd.pinned (.plain (OpenSpec.ofChange keysTextsSpec)) keysTextsCard

/-- THE TIED CARD OF 'whispererlaw08.KeysShown'. -/
def keysShownCard : Claim7 := { stood := { row := keysShownRow, standIns := [], harness := (true, "c22c63bce1961644ad7209058b48840cc91ec0aba6bc21addc450371746e7c5b"), looks := true }, kinds := [], alts := [], laidByText := true, laidKinds := [.data, .data, .data, .sentinel, .sentinel, .widerDeep], laidTests := true, laidLooks := .later }
def KeysShownCardSaid : Prop := Claim7.holds Tryd.pinned (.plain (OpenSpec.ofChange keysShownSpec)) keysShownCard

/-- THE TIED CARD OF 'whispererlaw08.KeysUnlike'. -/
def keysUnlikeCard : Claim7 := { stood := { row := keysUnlikeRow, standIns := [], harness := (true, "c22c63bce1961644ad7209058b48840cc91ec0aba6bc21addc450371746e7c5b"), looks := true }, kinds := [], alts := [], laidByText := true, laidKinds := [.data, .data, .data, .sentinel, .sentinel, .widerDeep], laidTests := true, laidLooks := .later }
def KeysUnlikeCardSaid : Prop := Claim7.holds Tryd.pinned (.plain (OpenSpec.ofChange keysUnlikeSpec)) keysUnlikeCard

/-- THE TIED CARD OF 'whispererlaw08.KeysOf'. -/
def keysOfCard : Claim7 := { stood := { row := keysOfRow, standIns := [], harness := (true, "c22c63bce1961644ad7209058b48840cc91ec0aba6bc21addc450371746e7c5b"), looks := true }, kinds := [], alts := [], laidByText := true, laidKinds := [.data, .data, .data, .sentinel, .sentinel, .widerDeep], laidTests := true, laidLooks := .later }
def KeysOfCardSaid : Prop := Claim7.holds Tryd.pinned (.plain (OpenSpec.ofChange keysOfSpec)) keysOfCard

/-- THE TIED CARD OF 'whispererlaw08.KeysBack'. -/
def keysBackCard : Claim7 := { stood := { row := keysBackRow, standIns := [], harness := (true, "c22c63bce1961644ad7209058b48840cc91ec0aba6bc21addc450371746e7c5b"), looks := true }, kinds := [], alts := [], laidByText := true, laidKinds := [.data, .data, .data, .data, .sentinel, .sentinel, .widerDeep, .pinned], laidTests := true, laidLooks := .later }
def KeysBackCardSaid : Prop := Claim7.holds Tryd.pinned (.plain (OpenSpec.ofChange keysBackSpec)) keysBackCard

/-- THE SECOND FORM's CARD OF 'whispererlaw08.KeysTexts'. -/
def keysTextsUptoCard : Claim7 := { stood := { row := keysTextsUptoRow, standIns := [], harness := (true, "c22c63bce1961644ad7209058b48840cc91ec0aba6bc21addc450371746e7c5b"), looks := true }, kinds := [], alts := [], laidByText := true, laidKinds := [.data, .data, .data, .sentinel, .sentinel, .widerDeep], laidTests := true, laidLooks := .later }
def KeysTextsUptoCardSaid : Prop := Claim7.holds Tryd.pinned (.plain (OpenSpec.upto keysTextsSpec)) keysTextsUptoCard

/-- THE SECOND FORM's CARD OF 'whispererlaw08.KeysShown'. -/
def keysShownUptoCard : Claim7 := { stood := { row := keysShownUptoRow, standIns := [], harness := (true, "c22c63bce1961644ad7209058b48840cc91ec0aba6bc21addc450371746e7c5b"), looks := true }, kinds := [], alts := [], laidByText := true, laidKinds := [.data, .data, .data, .sentinel, .sentinel, .widerDeep], laidTests := true, laidLooks := .later }
def KeysShownUptoCardSaid : Prop := Claim7.holds Tryd.pinned (.plain (OpenSpec.upto keysShownSpec)) keysShownUptoCard

/-- THE SECOND FORM's CARD OF 'whispererlaw08.KeysUnlike'. -/
def keysUnlikeUptoCard : Claim7 := { stood := { row := keysUnlikeUptoRow, standIns := [], harness := (true, "c22c63bce1961644ad7209058b48840cc91ec0aba6bc21addc450371746e7c5b"), looks := true }, kinds := [], alts := [], laidByText := true, laidKinds := [.data, .data, .data, .sentinel, .sentinel, .widerDeep], laidTests := true, laidLooks := .later }
def KeysUnlikeUptoCardSaid : Prop := Claim7.holds Tryd.pinned (.plain (OpenSpec.upto keysUnlikeSpec)) keysUnlikeUptoCard

/-- THE SECOND FORM's CARD OF 'whispererlaw08.KeysOf'. -/
def keysOfUptoCard : Claim7 := { stood := { row := keysOfUptoRow, standIns := [], harness := (true, "c22c63bce1961644ad7209058b48840cc91ec0aba6bc21addc450371746e7c5b"), looks := true }, kinds := [], alts := [], laidByText := true, laidKinds := [.data, .data, .data, .sentinel, .sentinel, .widerDeep], laidTests := true, laidLooks := .later }
def KeysOfUptoCardSaid : Prop := Claim7.holds Tryd.pinned (.plain (OpenSpec.upto keysOfSpec)) keysOfUptoCard

/-- THE SECOND FORM's CARD OF 'whispererlaw08.KeysBack'. -/
def keysBackUptoCard : Claim7 := { stood := { row := keysBackUptoRow, standIns := [], harness := (true, "c22c63bce1961644ad7209058b48840cc91ec0aba6bc21addc450371746e7c5b"), looks := true }, kinds := [], alts := [], laidByText := true, laidKinds := [.data, .data, .data, .data, .sentinel, .sentinel, .widerDeep, .pinned], laidTests := true, laidLooks := .later }
def KeysBackUptoCardSaid : Prop := Claim7.holds Tryd.pinned (.plain (OpenSpec.upto keysBackSpec)) keysBackUptoCard
end Rows
end Go.Proofs.YtanlgkmijegefaaDoor
