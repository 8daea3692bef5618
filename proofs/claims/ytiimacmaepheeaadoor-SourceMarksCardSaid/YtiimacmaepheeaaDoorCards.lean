/-
  DERIVED. GIVEN WITH THE SEED: THE CARDS: each row of YtiimacmaepheeaaDoorRows.lean that lists a variable, with what it lists TIED to the program's text (the seventh form; the later family's looks); each row that meets fmt, with fmt's text TOLD by the authors' own Lean function (tested against real Go, not proved from fmt's source: count such statements apart). THE CARD IS WHAT COUNTS. Prove the row's statement (the work); the ties are given (YtiimacmaepheeaaDoorTie.lean); close each card by the builder's one call (the guide's Derived/Test/ToyasCard.lean, 'card_holds'). Laid BY PROGRAM, IN A SANDBOX (cutbox-door.mjs). By AI agents, Wed Nov 11 2026. No macro, syntax, notation, axiom, sorry.
-/
import Derived.Test.YtiimacmaepheeaaDoorRows
import GoSem.ClaimSeven
namespace Go.Proofs.YtiimacmaepheeaaDoor
namespace Rows

/-- THE TIED CARD OF 'confluentlaw01.SourcePositions'. -/
def sourcePositionsCard : Claim7 := { stood := { row := sourcePositionsRow, standIns := [], harness := (true, "21fed94f5a740068b282f2a318f00f8f535212040fb4847b018ea112c3fbed5e"), looks := false }, kinds := [], alts := [], laidByText := true, laidKinds := [.data, .data, .data], laidTests := true, laidLooks := .later }
def SourcePositionsCardSaid : Prop := Claim7.holds Tryd.pinned (.plain (OpenSpec.ofChange sourcePositionsSpec)) sourcePositionsCard

/-- THE TIED CARD OF 'confluentlaw01.SourceContents'. -/
def sourceContentsCard : Claim7 := { stood := { row := sourceContentsRow, standIns := [], harness := (true, "21fed94f5a740068b282f2a318f00f8f535212040fb4847b018ea112c3fbed5e"), looks := false }, kinds := [], alts := [], laidByText := true, laidKinds := [.data, .data, .data], laidTests := true, laidLooks := .later }
def SourceContentsCardSaid : Prop := Claim7.holds Tryd.pinned (.plain (OpenSpec.ofChange sourceContentsSpec)) sourceContentsCard

/-- THE TIED CARD OF 'confluentlaw01.SourceExcerpts'. -/
def sourceExcerptsCard : Claim7 := { stood := { row := sourceExcerptsRow, standIns := [], harness := (true, "21fed94f5a740068b282f2a318f00f8f535212040fb4847b018ea112c3fbed5e"), looks := false }, kinds := [], alts := [], laidByText := true, laidKinds := [.data, .data, .data], laidTests := true, laidLooks := .later }
def SourceExcerptsCardSaid : Prop := Claim7.holds Tryd.pinned (.plain (OpenSpec.ofChange sourceExcerptsSpec)) sourceExcerptsCard

/-- THE TIED CARD OF 'confluentlaw01.SourceInverse'. -/
def sourceInverseCard : Claim7 := { stood := { row := sourceInverseRow, standIns := [], harness := (true, "21fed94f5a740068b282f2a318f00f8f535212040fb4847b018ea112c3fbed5e"), looks := false }, kinds := [], alts := [], laidByText := true, laidKinds := [.data, .data, .data], laidTests := true, laidLooks := .later }
def SourceInverseCardSaid : Prop := Claim7.holds Tryd.pinned (.plain (OpenSpec.ofChange sourceInverseSpec)) sourceInverseCard

/-- THE TIED CARD OF 'confluentlaw01.SourceOrder'. -/
def sourceOrderCard : Claim7 := { stood := { row := sourceOrderRow, standIns := [], harness := (true, "21fed94f5a740068b282f2a318f00f8f535212040fb4847b018ea112c3fbed5e"), looks := false }, kinds := [], alts := [], laidByText := true, laidKinds := [.data, .data, .data], laidTests := true, laidLooks := .later }
def SourceOrderCardSaid : Prop := Claim7.holds Tryd.pinned (.plain (OpenSpec.ofChange sourceOrderSpec)) sourceOrderCard

/-- THE TIED CARD OF 'confluentlaw01.SourceMarks'. -/
def sourceMarksCard : Claim7 := { stood := { row := sourceMarksRow, standIns := [], harness := (true, "21fed94f5a740068b282f2a318f00f8f535212040fb4847b018ea112c3fbed5e"), looks := false }, kinds := [], alts := [], laidByText := true, laidKinds := [.data, .data, .data], laidTests := true, laidLooks := .later }
def SourceMarksCardSaid : Prop := Claim7.holds Tryd.pinned (.plain (OpenSpec.ofChange sourceMarksSpec)) sourceMarksCard

/-- THE TIED CARD OF 'confluentlaw01.SourceJoins'. -/
def sourceJoinsCard : Claim7 := { stood := { row := sourceJoinsRow, standIns := [], harness := (true, "21fed94f5a740068b282f2a318f00f8f535212040fb4847b018ea112c3fbed5e"), looks := false }, kinds := [], alts := [], laidByText := true, laidKinds := [.data, .data, .data], laidTests := true, laidLooks := .later }
def SourceJoinsCardSaid : Prop := Claim7.holds Tryd.pinned (.plain (OpenSpec.ofChange sourceJoinsSpec)) sourceJoinsCard

/-- THE SECOND FORM's CARD OF 'confluentlaw01.SourcePositions'. -/
def sourcePositionsUptoCard : Claim7 := { stood := { row := sourcePositionsUptoRow, standIns := [], harness := (true, "21fed94f5a740068b282f2a318f00f8f535212040fb4847b018ea112c3fbed5e"), looks := false }, kinds := [], alts := [], laidByText := true, laidKinds := [.data, .data, .data], laidTests := true, laidLooks := .later }
def SourcePositionsUptoCardSaid : Prop := Claim7.holds Tryd.pinned (.plain (OpenSpec.upto sourcePositionsSpec)) sourcePositionsUptoCard

/-- THE SECOND FORM's CARD OF 'confluentlaw01.SourceContents'. -/
def sourceContentsUptoCard : Claim7 := { stood := { row := sourceContentsUptoRow, standIns := [], harness := (true, "21fed94f5a740068b282f2a318f00f8f535212040fb4847b018ea112c3fbed5e"), looks := false }, kinds := [], alts := [], laidByText := true, laidKinds := [.data, .data, .data], laidTests := true, laidLooks := .later }
def SourceContentsUptoCardSaid : Prop := Claim7.holds Tryd.pinned (.plain (OpenSpec.upto sourceContentsSpec)) sourceContentsUptoCard

/-- THE SECOND FORM's CARD OF 'confluentlaw01.SourceExcerpts'. -/
def sourceExcerptsUptoCard : Claim7 := { stood := { row := sourceExcerptsUptoRow, standIns := [], harness := (true, "21fed94f5a740068b282f2a318f00f8f535212040fb4847b018ea112c3fbed5e"), looks := false }, kinds := [], alts := [], laidByText := true, laidKinds := [.data, .data, .data], laidTests := true, laidLooks := .later }
def SourceExcerptsUptoCardSaid : Prop := Claim7.holds Tryd.pinned (.plain (OpenSpec.upto sourceExcerptsSpec)) sourceExcerptsUptoCard

/-- THE SECOND FORM's CARD OF 'confluentlaw01.SourceInverse'. -/
def sourceInverseUptoCard : Claim7 := { stood := { row := sourceInverseUptoRow, standIns := [], harness := (true, "21fed94f5a740068b282f2a318f00f8f535212040fb4847b018ea112c3fbed5e"), looks := false }, kinds := [], alts := [], laidByText := true, laidKinds := [.data, .data, .data], laidTests := true, laidLooks := .later }
def SourceInverseUptoCardSaid : Prop := Claim7.holds Tryd.pinned (.plain (OpenSpec.upto sourceInverseSpec)) sourceInverseUptoCard

/-- THE SECOND FORM's CARD OF 'confluentlaw01.SourceOrder'. -/
def sourceOrderUptoCard : Claim7 := { stood := { row := sourceOrderUptoRow, standIns := [], harness := (true, "21fed94f5a740068b282f2a318f00f8f535212040fb4847b018ea112c3fbed5e"), looks := false }, kinds := [], alts := [], laidByText := true, laidKinds := [.data, .data, .data], laidTests := true, laidLooks := .later }
def SourceOrderUptoCardSaid : Prop := Claim7.holds Tryd.pinned (.plain (OpenSpec.upto sourceOrderSpec)) sourceOrderUptoCard

/-- THE SECOND FORM's CARD OF 'confluentlaw01.SourceMarks'. -/
def sourceMarksUptoCard : Claim7 := { stood := { row := sourceMarksUptoRow, standIns := [], harness := (true, "21fed94f5a740068b282f2a318f00f8f535212040fb4847b018ea112c3fbed5e"), looks := false }, kinds := [], alts := [], laidByText := true, laidKinds := [.data, .data, .data], laidTests := true, laidLooks := .later }
def SourceMarksUptoCardSaid : Prop := Claim7.holds Tryd.pinned (.plain (OpenSpec.upto sourceMarksSpec)) sourceMarksUptoCard

/-- THE SECOND FORM's CARD OF 'confluentlaw01.SourceJoins'. -/
def sourceJoinsUptoCard : Claim7 := { stood := { row := sourceJoinsUptoRow, standIns := [], harness := (true, "21fed94f5a740068b282f2a318f00f8f535212040fb4847b018ea112c3fbed5e"), looks := false }, kinds := [], alts := [], laidByText := true, laidKinds := [.data, .data, .data], laidTests := true, laidLooks := .later }
def SourceJoinsUptoCardSaid : Prop := Claim7.holds Tryd.pinned (.plain (OpenSpec.upto sourceJoinsSpec)) sourceJoinsUptoCard
end Rows
end Go.Proofs.YtiimacmaepheeaaDoor
