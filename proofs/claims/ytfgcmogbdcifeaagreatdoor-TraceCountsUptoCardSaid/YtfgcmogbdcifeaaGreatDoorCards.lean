/-
  DERIVED. GIVEN WITH THE SEED: THE CARDS: each row of YtfgcmogbdcifeaaGreatDoorRows.lean that lists a variable, with what it lists TIED to the program's text (the seventh form; the later family's looks); each row that meets fmt, with fmt's text TOLD by the authors' own Lean function (tested against real Go, not proved from fmt's source: count such statements apart). THE CARD IS WHAT COUNTS. Prove the row's statement (the work); the ties are given (YtfgcmogbdcifeaaGreatDoorTie.lean); close each card by the builder's one call (the guide's Derived/Test/ToyasCard.lean, 'card_holds'). Laid BY PROGRAM, IN A SANDBOX (cutbox-door.mjs). By AI agents, Wed Nov 11 2026. No macro, syntax, notation, axiom, sorry.
-/
import Derived.Test.YtfgcmogbdcifeaaGreatDoorRows
import GoSem.ClaimSeven
namespace Go.Proofs.YtfgcmogbdcifeaaGreatDoor
namespace Rows

/-- THE TIED CARD OF 'confluentlaw59.TraceLines'. -/
def traceLinesCard : Claim7 := { stood := { row := traceLinesRow, standIns := [], harness := (true, "9a904f246ad5ce3e7c66e01f3fc1c867c2a1ff4ded7a3368463a7a56fe52a798"), looks := false }, kinds := [], alts := [], laidByText := true, laidKinds := [.data, .data, .data, .data, .listed, .data, .pinned], laidTests := true, laidLooks := .later }
def TraceLinesCardSaid : Prop := Claim7.holds Tryz.pinned (.plain (OpenSpec.ofChange traceLinesSpec)) traceLinesCard

/-- THE TIED CARD OF 'confluentlaw59.TraceWhy'. -/
def traceWhyCard : Claim7 := { stood := { row := traceWhyRow, standIns := [], harness := (true, "9a904f246ad5ce3e7c66e01f3fc1c867c2a1ff4ded7a3368463a7a56fe52a798"), looks := false }, kinds := [], alts := [], laidByText := true, laidKinds := [.data, .data, .data, .data, .listed, .data, .pinned], laidTests := true, laidLooks := .later }
def TraceWhyCardSaid : Prop := Claim7.holds Tryz.pinned (.plain (OpenSpec.ofChange traceWhySpec)) traceWhyCard

/-- THE TIED CARD OF 'confluentlaw59.TraceFigures'. -/
def traceFiguresCard : Claim7 := { stood := { row := traceFiguresRow, standIns := [], harness := (true, "9a904f246ad5ce3e7c66e01f3fc1c867c2a1ff4ded7a3368463a7a56fe52a798"), looks := false }, kinds := [], alts := [], laidByText := true, laidKinds := [.data, .data, .data, .data, .listed, .data, .pinned], laidTests := true, laidLooks := .later }
def TraceFiguresCardSaid : Prop := Claim7.holds Tryz.pinned (.plain (OpenSpec.ofChange traceFiguresSpec)) traceFiguresCard

/-- THE TIED CARD OF 'confluentlaw59.TraceCounts'. -/
def traceCountsCard : Claim7 := { stood := { row := traceCountsRow, standIns := [], harness := (true, "9a904f246ad5ce3e7c66e01f3fc1c867c2a1ff4ded7a3368463a7a56fe52a798"), looks := false }, kinds := [], alts := [], laidByText := true, laidKinds := [.data, .data, .data, .data, .listed, .data, .pinned], laidTests := true, laidLooks := .later }
def TraceCountsCardSaid : Prop := Claim7.holds Tryz.pinned (.plain (OpenSpec.ofChange traceCountsSpec)) traceCountsCard

/-- THE TIED CARD OF 'confluentlaw59.TraceTells'. -/
def traceTellsCard : Claim7 := { stood := { row := traceTellsRow, standIns := [], harness := (true, "9a904f246ad5ce3e7c66e01f3fc1c867c2a1ff4ded7a3368463a7a56fe52a798"), looks := false }, kinds := [], alts := [], laidByText := true, laidKinds := [.data, .data, .data, .data, .listed, .data, .pinned], laidTests := true, laidLooks := .later }
def TraceTellsCardSaid : Prop := Claim7.holds Tryz.pinned (.plain (OpenSpec.ofChange traceTellsSpec)) traceTellsCard

/-- THE SECOND FORM's CARD OF 'confluentlaw59.TraceLines'. -/
def traceLinesUptoCard : Claim7 := { stood := { row := traceLinesUptoRow, standIns := [], harness := (true, "9a904f246ad5ce3e7c66e01f3fc1c867c2a1ff4ded7a3368463a7a56fe52a798"), looks := false }, kinds := [], alts := [], laidByText := true, laidKinds := [.data, .data, .data, .data, .listed, .data, .pinned], laidTests := true, laidLooks := .later }
def TraceLinesUptoCardSaid : Prop := Claim7.holds Tryz.pinned (.plain (OpenSpec.upto traceLinesSpec)) traceLinesUptoCard

/-- THE SECOND FORM's CARD OF 'confluentlaw59.TraceWhy'. -/
def traceWhyUptoCard : Claim7 := { stood := { row := traceWhyUptoRow, standIns := [], harness := (true, "9a904f246ad5ce3e7c66e01f3fc1c867c2a1ff4ded7a3368463a7a56fe52a798"), looks := false }, kinds := [], alts := [], laidByText := true, laidKinds := [.data, .data, .data, .data, .listed, .data, .pinned], laidTests := true, laidLooks := .later }
def TraceWhyUptoCardSaid : Prop := Claim7.holds Tryz.pinned (.plain (OpenSpec.upto traceWhySpec)) traceWhyUptoCard

/-- THE SECOND FORM's CARD OF 'confluentlaw59.TraceFigures'. -/
def traceFiguresUptoCard : Claim7 := { stood := { row := traceFiguresUptoRow, standIns := [], harness := (true, "9a904f246ad5ce3e7c66e01f3fc1c867c2a1ff4ded7a3368463a7a56fe52a798"), looks := false }, kinds := [], alts := [], laidByText := true, laidKinds := [.data, .data, .data, .data, .listed, .data, .pinned], laidTests := true, laidLooks := .later }
def TraceFiguresUptoCardSaid : Prop := Claim7.holds Tryz.pinned (.plain (OpenSpec.upto traceFiguresSpec)) traceFiguresUptoCard

/-- THE SECOND FORM's CARD OF 'confluentlaw59.TraceCounts'. -/
def traceCountsUptoCard : Claim7 := { stood := { row := traceCountsUptoRow, standIns := [], harness := (true, "9a904f246ad5ce3e7c66e01f3fc1c867c2a1ff4ded7a3368463a7a56fe52a798"), looks := false }, kinds := [], alts := [], laidByText := true, laidKinds := [.data, .data, .data, .data, .listed, .data, .pinned], laidTests := true, laidLooks := .later }
def TraceCountsUptoCardSaid : Prop := Claim7.holds Tryz.pinned (.plain (OpenSpec.upto traceCountsSpec)) traceCountsUptoCard

/-- THE SECOND FORM's CARD OF 'confluentlaw59.TraceTells'. -/
def traceTellsUptoCard : Claim7 := { stood := { row := traceTellsUptoRow, standIns := [], harness := (true, "9a904f246ad5ce3e7c66e01f3fc1c867c2a1ff4ded7a3368463a7a56fe52a798"), looks := false }, kinds := [], alts := [], laidByText := true, laidKinds := [.data, .data, .data, .data, .listed, .data, .pinned], laidTests := true, laidLooks := .later }
def TraceTellsUptoCardSaid : Prop := Claim7.holds Tryz.pinned (.plain (OpenSpec.upto traceTellsSpec)) traceTellsUptoCard
end Rows
end Go.Proofs.YtfgcmogbdcifeaaGreatDoor
