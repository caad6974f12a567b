/-
  DERIVED. GIVEN WITH THE SEED: THE CARDS: each row of YtmdeehblmkpddaaDoorRows.lean that lists a variable, with what it lists TIED to the program's text (the seventh form; the later family's looks); each row that meets fmt, with fmt's text TOLD by the authors' own Lean function (tested against real Go, not proved from fmt's source: count such statements apart). THE CARD IS WHAT COUNTS. Prove the row's statement (the work); the ties are given (YtmdeehblmkpddaaDoorTie.lean); close each card by the builder's one call (the guide's Derived/Test/ToyasCard.lean, 'card_holds'). Laid BY PROGRAM, IN A SANDBOX (cutbox-door.mjs). By AI agents, Wed Nov 11 2026. No macro, syntax, notation, axiom, sorry.
-/
import Derived.Test.YtmdeehblmkpddaaDoorRows
import GoSem.ClaimSeven
namespace Go.Proofs.YtmdeehblmkpddaaDoor
namespace Rows

/-- THE TIED CARD OF 'whispererlaw14.ScreenBacks'. -/
def screenBacksCard : Claim7 := { stood := { row := screenBacksRow, standIns := [], harness := (true, "ac2547c09496e4a2284dcc4cf26682ba964b1dac7ecec5cc80ea35067e3529c4"), looks := true }, kinds := [], alts := [], laidByText := true, laidKinds := [.data, .data, .data, .data, .sentinel, .sentinel, .pinned], laidTests := true, laidLooks := .later }
def ScreenBacksCardSaid : Prop := Claim7.holds Tryd.pinned (.plain (OpenSpec.ofChange screenBacksSpec)) screenBacksCard

/-- THE TIED CARD OF 'whispererlaw14.ScreenTyped'. -/
def screenTypedCard : Claim7 := { stood := { row := screenTypedRow, standIns := [], harness := (true, "ac2547c09496e4a2284dcc4cf26682ba964b1dac7ecec5cc80ea35067e3529c4"), looks := true }, kinds := [], alts := [], laidByText := true, laidKinds := [.data, .data, .data, .data, .sentinel, .sentinel, .pinned], laidTests := true, laidLooks := .later }
def ScreenTypedCardSaid : Prop := Claim7.holds Tryd.pinned (.plain (OpenSpec.ofChange screenTypedSpec)) screenTypedCard

/-- THE TIED CARD OF 'whispererlaw14.ScreenShows'. -/
def screenShowsCard : Claim7 := { stood := { row := screenShowsRow, standIns := [], harness := (true, "ac2547c09496e4a2284dcc4cf26682ba964b1dac7ecec5cc80ea35067e3529c4"), looks := true }, kinds := [], alts := [], laidByText := true, laidKinds := [.data, .data, .data, .data, .sentinel, .sentinel, .pinned], laidTests := true, laidLooks := .later }
def ScreenShowsCardSaid : Prop := Claim7.holds Tryd.pinned (.plain (OpenSpec.ofChange screenShowsSpec)) screenShowsCard

/-- THE TIED CARD OF 'whispererlaw14.ScreenNone'. -/
def screenNoneCard : Claim7 := { stood := { row := screenNoneRow, standIns := [], harness := (true, "ac2547c09496e4a2284dcc4cf26682ba964b1dac7ecec5cc80ea35067e3529c4"), looks := true }, kinds := [], alts := [], laidByText := true, laidKinds := [.data, .data, .data, .data, .sentinel, .sentinel, .pinned], laidTests := true, laidLooks := .later }
def ScreenNoneCardSaid : Prop := Claim7.holds Tryd.pinned (.plain (OpenSpec.ofChange screenNoneSpec)) screenNoneCard

/-- THE TIED CARD OF 'whispererlaw14.ScreenPieces'. -/
def screenPiecesCard : Claim7 := { stood := { row := screenPiecesRow, standIns := [], harness := (true, "ac2547c09496e4a2284dcc4cf26682ba964b1dac7ecec5cc80ea35067e3529c4"), looks := true }, kinds := [], alts := [], laidByText := true, laidKinds := [.data, .data, .data, .data, .sentinel, .sentinel, .pinned], laidTests := true, laidLooks := .later }
def ScreenPiecesCardSaid : Prop := Claim7.holds Tryd.pinned (.plain (OpenSpec.ofChange screenPiecesSpec)) screenPiecesCard

/-- THE TIED CARD OF 'whispererlaw14.ScreenSigns'. -/
def screenSignsCard : Claim7 := { stood := { row := screenSignsRow, standIns := [], harness := (true, "ac2547c09496e4a2284dcc4cf26682ba964b1dac7ecec5cc80ea35067e3529c4"), looks := true }, kinds := [], alts := [], laidByText := true, laidKinds := [.data, .data, .data, .data, .sentinel, .sentinel, .pinned], laidTests := true, laidLooks := .later }
def ScreenSignsCardSaid : Prop := Claim7.holds Tryd.pinned (.plain (OpenSpec.ofChange screenSignsSpec)) screenSignsCard

/-- THE TIED CARD OF 'whispererlaw14.ScreenViews'. -/
def screenViewsCard : Claim7 := { stood := { row := screenViewsRow, standIns := [], harness := (true, "ac2547c09496e4a2284dcc4cf26682ba964b1dac7ecec5cc80ea35067e3529c4"), looks := true }, kinds := [], alts := [], laidByText := true, laidKinds := [.data, .data, .data, .data, .sentinel, .sentinel, .pinned], laidTests := true, laidLooks := .later }
def ScreenViewsCardSaid : Prop := Claim7.holds Tryd.pinned (.plain (OpenSpec.ofChange screenViewsSpec)) screenViewsCard

/-- THE SECOND FORM's CARD OF 'whispererlaw14.ScreenBacks'. -/
def screenBacksUptoCard : Claim7 := { stood := { row := screenBacksUptoRow, standIns := [], harness := (true, "ac2547c09496e4a2284dcc4cf26682ba964b1dac7ecec5cc80ea35067e3529c4"), looks := true }, kinds := [], alts := [], laidByText := true, laidKinds := [.data, .data, .data, .data, .sentinel, .sentinel, .pinned], laidTests := true, laidLooks := .later }
def ScreenBacksUptoCardSaid : Prop := Claim7.holds Tryd.pinned (.plain (OpenSpec.upto screenBacksSpec)) screenBacksUptoCard

/-- THE SECOND FORM's CARD OF 'whispererlaw14.ScreenTyped'. -/
def screenTypedUptoCard : Claim7 := { stood := { row := screenTypedUptoRow, standIns := [], harness := (true, "ac2547c09496e4a2284dcc4cf26682ba964b1dac7ecec5cc80ea35067e3529c4"), looks := true }, kinds := [], alts := [], laidByText := true, laidKinds := [.data, .data, .data, .data, .sentinel, .sentinel, .pinned], laidTests := true, laidLooks := .later }
def ScreenTypedUptoCardSaid : Prop := Claim7.holds Tryd.pinned (.plain (OpenSpec.upto screenTypedSpec)) screenTypedUptoCard

/-- THE SECOND FORM's CARD OF 'whispererlaw14.ScreenShows'. -/
def screenShowsUptoCard : Claim7 := { stood := { row := screenShowsUptoRow, standIns := [], harness := (true, "ac2547c09496e4a2284dcc4cf26682ba964b1dac7ecec5cc80ea35067e3529c4"), looks := true }, kinds := [], alts := [], laidByText := true, laidKinds := [.data, .data, .data, .data, .sentinel, .sentinel, .pinned], laidTests := true, laidLooks := .later }
def ScreenShowsUptoCardSaid : Prop := Claim7.holds Tryd.pinned (.plain (OpenSpec.upto screenShowsSpec)) screenShowsUptoCard

/-- THE SECOND FORM's CARD OF 'whispererlaw14.ScreenNone'. -/
def screenNoneUptoCard : Claim7 := { stood := { row := screenNoneUptoRow, standIns := [], harness := (true, "ac2547c09496e4a2284dcc4cf26682ba964b1dac7ecec5cc80ea35067e3529c4"), looks := true }, kinds := [], alts := [], laidByText := true, laidKinds := [.data, .data, .data, .data, .sentinel, .sentinel, .pinned], laidTests := true, laidLooks := .later }
def ScreenNoneUptoCardSaid : Prop := Claim7.holds Tryd.pinned (.plain (OpenSpec.upto screenNoneSpec)) screenNoneUptoCard

/-- THE SECOND FORM's CARD OF 'whispererlaw14.ScreenPieces'. -/
def screenPiecesUptoCard : Claim7 := { stood := { row := screenPiecesUptoRow, standIns := [], harness := (true, "ac2547c09496e4a2284dcc4cf26682ba964b1dac7ecec5cc80ea35067e3529c4"), looks := true }, kinds := [], alts := [], laidByText := true, laidKinds := [.data, .data, .data, .data, .sentinel, .sentinel, .pinned], laidTests := true, laidLooks := .later }
def ScreenPiecesUptoCardSaid : Prop := Claim7.holds Tryd.pinned (.plain (OpenSpec.upto screenPiecesSpec)) screenPiecesUptoCard

/-- THE SECOND FORM's CARD OF 'whispererlaw14.ScreenSigns'. -/
def screenSignsUptoCard : Claim7 := { stood := { row := screenSignsUptoRow, standIns := [], harness := (true, "ac2547c09496e4a2284dcc4cf26682ba964b1dac7ecec5cc80ea35067e3529c4"), looks := true }, kinds := [], alts := [], laidByText := true, laidKinds := [.data, .data, .data, .data, .sentinel, .sentinel, .pinned], laidTests := true, laidLooks := .later }
def ScreenSignsUptoCardSaid : Prop := Claim7.holds Tryd.pinned (.plain (OpenSpec.upto screenSignsSpec)) screenSignsUptoCard

/-- THE SECOND FORM's CARD OF 'whispererlaw14.ScreenViews'. -/
def screenViewsUptoCard : Claim7 := { stood := { row := screenViewsUptoRow, standIns := [], harness := (true, "ac2547c09496e4a2284dcc4cf26682ba964b1dac7ecec5cc80ea35067e3529c4"), looks := true }, kinds := [], alts := [], laidByText := true, laidKinds := [.data, .data, .data, .data, .sentinel, .sentinel, .pinned], laidTests := true, laidLooks := .later }
def ScreenViewsUptoCardSaid : Prop := Claim7.holds Tryd.pinned (.plain (OpenSpec.upto screenViewsSpec)) screenViewsUptoCard
end Rows
end Go.Proofs.YtmdeehblmkpddaaDoor
