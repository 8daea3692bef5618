/-
  DERIVED. GIVEN WITH THE SEED: THE CARDS: each row of YteokbngllldmdaaGreatDoorRows.lean that lists a variable, with what it lists TIED to the program's text (the seventh form; the later family's looks); each row that meets fmt, with fmt's text TOLD by the authors' own Lean function (tested against real Go, not proved from fmt's source: count such statements apart). THE CARD IS WHAT COUNTS. Prove the row's statement (the work); the ties are given (YteokbngllldmdaaGreatDoorTie.lean); close each card by the builder's one call (the guide's Derived/Test/ToyasCard.lean, 'card_holds'). Laid BY PROGRAM, IN A SANDBOX (cutbox-door.mjs). By AI agents, Wed Nov 11 2026. No macro, syntax, notation, axiom, sorry.
-/
import Derived.Test.YteokbngllldmdaaGreatDoorRows
import GoSem.ClaimSeven
namespace Go.Proofs.YteokbngllldmdaaGreatDoor
namespace Rows

/-- THE TIED CARD OF 'confluentlaw51.ScheduleParses'. -/
def scheduleParsesCard : Claim7 := { stood := { row := scheduleParsesRow, standIns := [], harness := (true, "436de5f1569774aa26228c15bf0fe912c059b3b425e2fd220477df36ab92ce6d"), looks := true }, kinds := [], alts := [], laidByText := true, laidKinds := [.data, .data, .data, .data, .sentinel, .sentinel, .pinned], laidTests := true, laidLooks := .later }
def ScheduleParsesCardSaid : Prop := Claim7.holds Tryz.pinned (.plain (OpenSpec.ofChange scheduleParsesSpec)) scheduleParsesCard

/-- THE TIED CARD OF 'confluentlaw51.ScheduleReturns'. -/
def scheduleReturnsCard : Claim7 := { stood := { row := scheduleReturnsRow, standIns := [], harness := (true, "436de5f1569774aa26228c15bf0fe912c059b3b425e2fd220477df36ab92ce6d"), looks := true }, kinds := [], alts := [], laidByText := true, laidKinds := [.data, .data, .data, .data, .sentinel, .sentinel, .pinned], laidTests := true, laidLooks := .later }
def ScheduleReturnsCardSaid : Prop := Claim7.holds Tryz.pinned (.plain (OpenSpec.ofChange scheduleReturnsSpec)) scheduleReturnsCard

/-- THE TIED CARD OF 'confluentlaw51.ScheduleSplits'. -/
def scheduleSplitsCard : Claim7 := { stood := { row := scheduleSplitsRow, standIns := [], harness := (true, "436de5f1569774aa26228c15bf0fe912c059b3b425e2fd220477df36ab92ce6d"), looks := true }, kinds := [], alts := [], laidByText := true, laidKinds := [.data, .data, .data, .data, .sentinel, .sentinel, .pinned], laidTests := true, laidLooks := .later }
def ScheduleSplitsCardSaid : Prop := Claim7.holds Tryz.pinned (.plain (OpenSpec.ofChange scheduleSplitsSpec)) scheduleSplitsCard

/-- THE TIED CARD OF 'confluentlaw51.ScheduleBlanks'. -/
def scheduleBlanksCard : Claim7 := { stood := { row := scheduleBlanksRow, standIns := [], harness := (true, "436de5f1569774aa26228c15bf0fe912c059b3b425e2fd220477df36ab92ce6d"), looks := true }, kinds := [], alts := [], laidByText := true, laidKinds := [.data, .data, .data, .data, .sentinel, .sentinel, .pinned], laidTests := true, laidLooks := .later }
def ScheduleBlanksCardSaid : Prop := Claim7.holds Tryz.pinned (.plain (OpenSpec.ofChange scheduleBlanksSpec)) scheduleBlanksCard

/-- THE SECOND FORM's CARD OF 'confluentlaw51.ScheduleParses'. -/
def scheduleParsesUptoCard : Claim7 := { stood := { row := scheduleParsesUptoRow, standIns := [], harness := (true, "436de5f1569774aa26228c15bf0fe912c059b3b425e2fd220477df36ab92ce6d"), looks := true }, kinds := [], alts := [], laidByText := true, laidKinds := [.data, .data, .data, .data, .sentinel, .sentinel, .pinned], laidTests := true, laidLooks := .later }
def ScheduleParsesUptoCardSaid : Prop := Claim7.holds Tryz.pinned (.plain (OpenSpec.upto scheduleParsesSpec)) scheduleParsesUptoCard

/-- THE SECOND FORM's CARD OF 'confluentlaw51.ScheduleReturns'. -/
def scheduleReturnsUptoCard : Claim7 := { stood := { row := scheduleReturnsUptoRow, standIns := [], harness := (true, "436de5f1569774aa26228c15bf0fe912c059b3b425e2fd220477df36ab92ce6d"), looks := true }, kinds := [], alts := [], laidByText := true, laidKinds := [.data, .data, .data, .data, .sentinel, .sentinel, .pinned], laidTests := true, laidLooks := .later }
def ScheduleReturnsUptoCardSaid : Prop := Claim7.holds Tryz.pinned (.plain (OpenSpec.upto scheduleReturnsSpec)) scheduleReturnsUptoCard

/-- THE SECOND FORM's CARD OF 'confluentlaw51.ScheduleSplits'. -/
def scheduleSplitsUptoCard : Claim7 := { stood := { row := scheduleSplitsUptoRow, standIns := [], harness := (true, "436de5f1569774aa26228c15bf0fe912c059b3b425e2fd220477df36ab92ce6d"), looks := true }, kinds := [], alts := [], laidByText := true, laidKinds := [.data, .data, .data, .data, .sentinel, .sentinel, .pinned], laidTests := true, laidLooks := .later }
def ScheduleSplitsUptoCardSaid : Prop := Claim7.holds Tryz.pinned (.plain (OpenSpec.upto scheduleSplitsSpec)) scheduleSplitsUptoCard

/-- THE SECOND FORM's CARD OF 'confluentlaw51.ScheduleBlanks'. -/
def scheduleBlanksUptoCard : Claim7 := { stood := { row := scheduleBlanksUptoRow, standIns := [], harness := (true, "436de5f1569774aa26228c15bf0fe912c059b3b425e2fd220477df36ab92ce6d"), looks := true }, kinds := [], alts := [], laidByText := true, laidKinds := [.data, .data, .data, .data, .sentinel, .sentinel, .pinned], laidTests := true, laidLooks := .later }
def ScheduleBlanksUptoCardSaid : Prop := Claim7.holds Tryz.pinned (.plain (OpenSpec.upto scheduleBlanksSpec)) scheduleBlanksUptoCard
end Rows
end Go.Proofs.YteokbngllldmdaaGreatDoor
