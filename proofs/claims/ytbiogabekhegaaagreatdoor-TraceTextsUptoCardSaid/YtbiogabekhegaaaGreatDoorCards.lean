/-
  DERIVED. GIVEN WITH THE SEED: THE CARDS: each row of YtbiogabekhegaaaGreatDoorRows.lean that lists a variable, with what it lists TIED to the program's text (the seventh form; the later family's looks); each row that meets fmt, with fmt's text TOLD by the authors' own Lean function (tested against real Go, not proved from fmt's source: count such statements apart). THE CARD IS WHAT COUNTS. Prove the row's statement (the work); the ties are given (YtbiogabekhegaaaGreatDoorTie.lean); close each card by the builder's one call (the guide's Derived/Test/ToyasCard.lean, 'card_holds'). Laid BY PROGRAM, IN A SANDBOX (cutbox-door.mjs). By AI agents, Wed Nov 11 2026. No macro, syntax, notation, axiom, sorry.
-/
import Derived.Test.YtbiogabekhegaaaGreatDoorRows
import GoSem.ClaimSeven
namespace Go.Proofs.YtbiogabekhegaaaGreatDoor
namespace Rows

/-- THE TIED CARD OF 'whispererlaw07.TraceWhole'. -/
def traceWholeCard : Claim7 := { stood := { row := traceWholeRow, standIns := [], harness := (true, "23b9d8213461e90dc0bf6db745eb9c0e82f26e1c3b94bed02db9202edf0bec87"), looks := true }, kinds := [], alts := [], laidByText := true, laidKinds := [.data, .data, .data, .data, .sentinel, .sentinel, .widerDeep, .pinned], laidTests := true, laidLooks := .later }
def TraceWholeCardSaid : Prop := Claim7.holds Tryz.pinned (.plain (OpenSpec.ofChange traceWholeSpec)) traceWholeCard

/-- THE TIED CARD OF 'whispererlaw07.TraceLines'. -/
def traceLinesCard : Claim7 := { stood := { row := traceLinesRow, standIns := [], harness := (true, "23b9d8213461e90dc0bf6db745eb9c0e82f26e1c3b94bed02db9202edf0bec87"), looks := true }, kinds := [], alts := [], laidByText := true, laidKinds := [.data, .data, .data, .data, .sentinel, .sentinel, .widerDeep, .pinned], laidTests := true, laidLooks := .later }
def TraceLinesCardSaid : Prop := Claim7.holds Tryz.pinned (.plain (OpenSpec.ofChange traceLinesSpec)) traceLinesCard

/-- THE TIED CARD OF 'whispererlaw07.TraceJoins'. -/
def traceJoinsCard : Claim7 := { stood := { row := traceJoinsRow, standIns := [], harness := (true, "23b9d8213461e90dc0bf6db745eb9c0e82f26e1c3b94bed02db9202edf0bec87"), looks := true }, kinds := [], alts := [], laidByText := true, laidKinds := [.data, .data, .data, .data, .sentinel, .sentinel, .widerDeep, .pinned], laidTests := true, laidLooks := .later }
def TraceJoinsCardSaid : Prop := Claim7.holds Tryz.pinned (.plain (OpenSpec.ofChange traceJoinsSpec)) traceJoinsCard

/-- THE TIED CARD OF 'whispererlaw07.TraceBack'. -/
def traceBackCard : Claim7 := { stood := { row := traceBackRow, standIns := [], harness := (true, "23b9d8213461e90dc0bf6db745eb9c0e82f26e1c3b94bed02db9202edf0bec87"), looks := true }, kinds := [], alts := [], laidByText := true, laidKinds := [.data, .data, .data, .data, .sentinel, .sentinel, .widerDeep, .pinned], laidTests := true, laidLooks := .later }
def TraceBackCardSaid : Prop := Claim7.holds Tryz.pinned (.plain (OpenSpec.ofChange traceBackSpec)) traceBackCard

/-- THE TIED CARD OF 'whispererlaw07.TraceTexts'. -/
def traceTextsCard : Claim7 := { stood := { row := traceTextsRow, standIns := [], harness := (true, "23b9d8213461e90dc0bf6db745eb9c0e82f26e1c3b94bed02db9202edf0bec87"), looks := true }, kinds := [], alts := [], laidByText := true, laidKinds := [.data, .data, .data, .data, .sentinel, .sentinel, .widerDeep, .pinned], laidTests := true, laidLooks := .later }
def TraceTextsCardSaid : Prop := Claim7.holds Tryz.pinned (.plain (OpenSpec.ofChange traceTextsSpec)) traceTextsCard

/-- THE SECOND FORM's CARD OF 'whispererlaw07.TraceWhole'. -/
def traceWholeUptoCard : Claim7 := { stood := { row := traceWholeUptoRow, standIns := [], harness := (true, "23b9d8213461e90dc0bf6db745eb9c0e82f26e1c3b94bed02db9202edf0bec87"), looks := true }, kinds := [], alts := [], laidByText := true, laidKinds := [.data, .data, .data, .data, .sentinel, .sentinel, .widerDeep, .pinned], laidTests := true, laidLooks := .later }
def TraceWholeUptoCardSaid : Prop := Claim7.holds Tryz.pinned (.plain (OpenSpec.upto traceWholeSpec)) traceWholeUptoCard

/-- THE SECOND FORM's CARD OF 'whispererlaw07.TraceLines'. -/
def traceLinesUptoCard : Claim7 := { stood := { row := traceLinesUptoRow, standIns := [], harness := (true, "23b9d8213461e90dc0bf6db745eb9c0e82f26e1c3b94bed02db9202edf0bec87"), looks := true }, kinds := [], alts := [], laidByText := true, laidKinds := [.data, .data, .data, .data, .sentinel, .sentinel, .widerDeep, .pinned], laidTests := true, laidLooks := .later }
def TraceLinesUptoCardSaid : Prop := Claim7.holds Tryz.pinned (.plain (OpenSpec.upto traceLinesSpec)) traceLinesUptoCard

/-- THE SECOND FORM's CARD OF 'whispererlaw07.TraceJoins'. -/
def traceJoinsUptoCard : Claim7 := { stood := { row := traceJoinsUptoRow, standIns := [], harness := (true, "23b9d8213461e90dc0bf6db745eb9c0e82f26e1c3b94bed02db9202edf0bec87"), looks := true }, kinds := [], alts := [], laidByText := true, laidKinds := [.data, .data, .data, .data, .sentinel, .sentinel, .widerDeep, .pinned], laidTests := true, laidLooks := .later }
def TraceJoinsUptoCardSaid : Prop := Claim7.holds Tryz.pinned (.plain (OpenSpec.upto traceJoinsSpec)) traceJoinsUptoCard

/-- THE SECOND FORM's CARD OF 'whispererlaw07.TraceBack'. -/
def traceBackUptoCard : Claim7 := { stood := { row := traceBackUptoRow, standIns := [], harness := (true, "23b9d8213461e90dc0bf6db745eb9c0e82f26e1c3b94bed02db9202edf0bec87"), looks := true }, kinds := [], alts := [], laidByText := true, laidKinds := [.data, .data, .data, .data, .sentinel, .sentinel, .widerDeep, .pinned], laidTests := true, laidLooks := .later }
def TraceBackUptoCardSaid : Prop := Claim7.holds Tryz.pinned (.plain (OpenSpec.upto traceBackSpec)) traceBackUptoCard

/-- THE SECOND FORM's CARD OF 'whispererlaw07.TraceTexts'. -/
def traceTextsUptoCard : Claim7 := { stood := { row := traceTextsUptoRow, standIns := [], harness := (true, "23b9d8213461e90dc0bf6db745eb9c0e82f26e1c3b94bed02db9202edf0bec87"), looks := true }, kinds := [], alts := [], laidByText := true, laidKinds := [.data, .data, .data, .data, .sentinel, .sentinel, .widerDeep, .pinned], laidTests := true, laidLooks := .later }
def TraceTextsUptoCardSaid : Prop := Claim7.holds Tryz.pinned (.plain (OpenSpec.upto traceTextsSpec)) traceTextsUptoCard
end Rows
end Go.Proofs.YtbiogabekhegaaaGreatDoor
