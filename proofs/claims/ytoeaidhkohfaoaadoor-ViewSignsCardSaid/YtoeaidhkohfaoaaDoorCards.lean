/-
  DERIVED. GIVEN WITH THE SEED: THE CARDS: each row of YtoeaidhkohfaoaaDoorRows.lean that lists a variable, with what it lists TIED to the program's text (the seventh form; the later family's looks); each row that meets fmt, with fmt's text TOLD by the authors' own Lean function (tested against real Go, not proved from fmt's source: count such statements apart). THE CARD IS WHAT COUNTS. Prove the row's statement (the work); the ties are given (YtoeaidhkohfaoaaDoorTie.lean); close each card by the builder's one call (the guide's Derived/Test/ToyasCard.lean, 'card_holds'). Laid BY PROGRAM, IN A SANDBOX (cutbox-door.mjs). By AI agents, Wed Nov 11 2026. No macro, syntax, notation, axiom, sorry.
-/
import Derived.Test.YtoeaidhkohfaoaaDoorRows
import GoSem.ClaimSeven
namespace Go.Proofs.YtoeaidhkohfaoaaDoor
namespace Rows

/-- THE TIED CARD OF 'whispererlaw13.ViewRenders'. -/
def viewRendersCard : Claim7 := { stood := { row := viewRendersRow, standIns := [], harness := (true, "1ed2e62dc9c7e945835f2f90ff2dd1be3a5372d664b4f83fbf2bbbba47d57e89"), looks := false }, kinds := [], alts := [], laidByText := true, laidKinds := [.data, .data, .data, .data, .pinned], laidTests := true, laidLooks := .later }
def ViewRendersCardSaid : Prop := Claim7.holds Tryd.pinned (.plain (OpenSpec.ofChange viewRendersSpec)) viewRendersCard

/-- THE TIED CARD OF 'whispererlaw13.ViewHides'. -/
def viewHidesCard : Claim7 := { stood := { row := viewHidesRow, standIns := [], harness := (true, "1ed2e62dc9c7e945835f2f90ff2dd1be3a5372d664b4f83fbf2bbbba47d57e89"), looks := false }, kinds := [], alts := [], laidByText := true, laidKinds := [.data, .data, .data, .data, .pinned], laidTests := true, laidLooks := .later }
def ViewHidesCardSaid : Prop := Claim7.holds Tryd.pinned (.plain (OpenSpec.ofChange viewHidesSpec)) viewHidesCard

/-- THE TIED CARD OF 'whispererlaw13.ViewPlaces'. -/
def viewPlacesCard : Claim7 := { stood := { row := viewPlacesRow, standIns := [], harness := (true, "1ed2e62dc9c7e945835f2f90ff2dd1be3a5372d664b4f83fbf2bbbba47d57e89"), looks := false }, kinds := [], alts := [], laidByText := true, laidKinds := [.data, .data, .data, .data, .pinned], laidTests := true, laidLooks := .later }
def ViewPlacesCardSaid : Prop := Claim7.holds Tryd.pinned (.plain (OpenSpec.ofChange viewPlacesSpec)) viewPlacesCard

/-- THE TIED CARD OF 'whispererlaw13.ViewChecks'. -/
def viewChecksCard : Claim7 := { stood := { row := viewChecksRow, standIns := [], harness := (true, "1ed2e62dc9c7e945835f2f90ff2dd1be3a5372d664b4f83fbf2bbbba47d57e89"), looks := false }, kinds := [], alts := [], laidByText := true, laidKinds := [.data, .data, .data, .data, .pinned], laidTests := true, laidLooks := .later }
def ViewChecksCardSaid : Prop := Claim7.holds Tryd.pinned (.plain (OpenSpec.ofChange viewChecksSpec)) viewChecksCard

/-- THE TIED CARD OF 'whispererlaw13.ViewSigns'. -/
def viewSignsCard : Claim7 := { stood := { row := viewSignsRow, standIns := [], harness := (true, "1ed2e62dc9c7e945835f2f90ff2dd1be3a5372d664b4f83fbf2bbbba47d57e89"), looks := false }, kinds := [], alts := [], laidByText := true, laidKinds := [.data, .data, .data, .data, .pinned], laidTests := true, laidLooks := .later }
def ViewSignsCardSaid : Prop := Claim7.holds Tryd.pinned (.plain (OpenSpec.ofChange viewSignsSpec)) viewSignsCard

/-- THE SECOND FORM's CARD OF 'whispererlaw13.ViewRenders'. -/
def viewRendersUptoCard : Claim7 := { stood := { row := viewRendersUptoRow, standIns := [], harness := (true, "1ed2e62dc9c7e945835f2f90ff2dd1be3a5372d664b4f83fbf2bbbba47d57e89"), looks := false }, kinds := [], alts := [], laidByText := true, laidKinds := [.data, .data, .data, .data, .pinned], laidTests := true, laidLooks := .later }
def ViewRendersUptoCardSaid : Prop := Claim7.holds Tryd.pinned (.plain (OpenSpec.upto viewRendersSpec)) viewRendersUptoCard

/-- THE SECOND FORM's CARD OF 'whispererlaw13.ViewHides'. -/
def viewHidesUptoCard : Claim7 := { stood := { row := viewHidesUptoRow, standIns := [], harness := (true, "1ed2e62dc9c7e945835f2f90ff2dd1be3a5372d664b4f83fbf2bbbba47d57e89"), looks := false }, kinds := [], alts := [], laidByText := true, laidKinds := [.data, .data, .data, .data, .pinned], laidTests := true, laidLooks := .later }
def ViewHidesUptoCardSaid : Prop := Claim7.holds Tryd.pinned (.plain (OpenSpec.upto viewHidesSpec)) viewHidesUptoCard

/-- THE SECOND FORM's CARD OF 'whispererlaw13.ViewPlaces'. -/
def viewPlacesUptoCard : Claim7 := { stood := { row := viewPlacesUptoRow, standIns := [], harness := (true, "1ed2e62dc9c7e945835f2f90ff2dd1be3a5372d664b4f83fbf2bbbba47d57e89"), looks := false }, kinds := [], alts := [], laidByText := true, laidKinds := [.data, .data, .data, .data, .pinned], laidTests := true, laidLooks := .later }
def ViewPlacesUptoCardSaid : Prop := Claim7.holds Tryd.pinned (.plain (OpenSpec.upto viewPlacesSpec)) viewPlacesUptoCard

/-- THE SECOND FORM's CARD OF 'whispererlaw13.ViewChecks'. -/
def viewChecksUptoCard : Claim7 := { stood := { row := viewChecksUptoRow, standIns := [], harness := (true, "1ed2e62dc9c7e945835f2f90ff2dd1be3a5372d664b4f83fbf2bbbba47d57e89"), looks := false }, kinds := [], alts := [], laidByText := true, laidKinds := [.data, .data, .data, .data, .pinned], laidTests := true, laidLooks := .later }
def ViewChecksUptoCardSaid : Prop := Claim7.holds Tryd.pinned (.plain (OpenSpec.upto viewChecksSpec)) viewChecksUptoCard

/-- THE SECOND FORM's CARD OF 'whispererlaw13.ViewSigns'. -/
def viewSignsUptoCard : Claim7 := { stood := { row := viewSignsUptoRow, standIns := [], harness := (true, "1ed2e62dc9c7e945835f2f90ff2dd1be3a5372d664b4f83fbf2bbbba47d57e89"), looks := false }, kinds := [], alts := [], laidByText := true, laidKinds := [.data, .data, .data, .data, .pinned], laidTests := true, laidLooks := .later }
def ViewSignsUptoCardSaid : Prop := Claim7.holds Tryd.pinned (.plain (OpenSpec.upto viewSignsSpec)) viewSignsUptoCard
end Rows
end Go.Proofs.YtoeaidhkohfaoaaDoor
