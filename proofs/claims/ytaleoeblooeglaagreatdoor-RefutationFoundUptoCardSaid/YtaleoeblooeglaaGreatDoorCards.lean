/-
  DERIVED. GIVEN WITH THE SEED: THE CARDS: each row of YtaleoeblooeglaaGreatDoorRows.lean that lists a variable, with what it lists TIED to the program's text (the seventh form; the later family's looks); each row that meets fmt, with fmt's text TOLD by the authors' own Lean function (tested against real Go, not proved from fmt's source: count such statements apart). THE CARD IS WHAT COUNTS. Prove the row's statement (the work); the ties are given (YtaleoeblooeglaaGreatDoorTie.lean); close each card by the builder's one call (the guide's Derived/Test/ToyasCard.lean, 'card_holds'). Laid BY PROGRAM, IN A SANDBOX (cutbox-door.mjs). By AI agents, Wed Nov 11 2026. No macro, syntax, notation, axiom, sorry.
-/
import Derived.Test.YtaleoeblooeglaaGreatDoorRows
import GoSem.ClaimSeven
namespace Go.Proofs.YtaleoeblooeglaaGreatDoor
namespace Rows

/-- THE TIED CARD OF 'confluentlaw21.RefutationForms'. -/
def refutationFormsCard : Claim7 := { stood := { row := refutationFormsRow, standIns := [], harness := (true, "4e6fd414bef100933fe6144cfd7c8ef309a6823beefde35efe51a96d849b7e8c"), looks := true }, kinds := [], alts := [], laidByText := true, laidKinds := [.data, .data, .data, .data, .sentinel, .sentinel, .pinned], laidTests := true, laidLooks := .later }
def RefutationFormsCardSaid : Prop := Claim7.holds Tryz.pinned (.plain (OpenSpec.ofChange refutationFormsSpec)) refutationFormsCard

/-- THE TIED CARD OF 'confluentlaw21.RefutationChecks'. -/
def refutationChecksCard : Claim7 := { stood := { row := refutationChecksRow, standIns := [], harness := (true, "4e6fd414bef100933fe6144cfd7c8ef309a6823beefde35efe51a96d849b7e8c"), looks := true }, kinds := [], alts := [], laidByText := true, laidKinds := [.data, .data, .data, .data, .sentinel, .sentinel, .pinned], laidTests := true, laidLooks := .later }
def RefutationChecksCardSaid : Prop := Claim7.holds Tryz.pinned (.plain (OpenSpec.ofChange refutationChecksSpec)) refutationChecksCard

/-- THE TIED CARD OF 'confluentlaw21.RefutationTrims'. -/
def refutationTrimsCard : Claim7 := { stood := { row := refutationTrimsRow, standIns := [], harness := (true, "4e6fd414bef100933fe6144cfd7c8ef309a6823beefde35efe51a96d849b7e8c"), looks := true }, kinds := [], alts := [], laidByText := true, laidKinds := [.data, .data, .data, .data, .sentinel, .sentinel, .pinned], laidTests := true, laidLooks := .later }
def RefutationTrimsCardSaid : Prop := Claim7.holds Tryz.pinned (.plain (OpenSpec.ofChange refutationTrimsSpec)) refutationTrimsCard

/-- THE TIED CARD OF 'confluentlaw21.RefutationTexts'. -/
def refutationTextsCard : Claim7 := { stood := { row := refutationTextsRow, standIns := [], harness := (true, "4e6fd414bef100933fe6144cfd7c8ef309a6823beefde35efe51a96d849b7e8c"), looks := true }, kinds := [], alts := [], laidByText := true, laidKinds := [.data, .data, .data, .data, .sentinel, .sentinel, .pinned], laidTests := true, laidLooks := .later }
def RefutationTextsCardSaid : Prop := Claim7.holds Tryz.pinned (.plain (OpenSpec.ofChange refutationTextsSpec)) refutationTextsCard

/-- THE TIED CARD OF 'confluentlaw21.RefutationReturns'. -/
def refutationReturnsCard : Claim7 := { stood := { row := refutationReturnsRow, standIns := [], harness := (true, "4e6fd414bef100933fe6144cfd7c8ef309a6823beefde35efe51a96d849b7e8c"), looks := true }, kinds := [], alts := [], laidByText := true, laidKinds := [.data, .data, .data, .data, .sentinel, .sentinel, .pinned], laidTests := true, laidLooks := .later }
def RefutationReturnsCardSaid : Prop := Claim7.holds Tryz.pinned (.plain (OpenSpec.ofChange refutationReturnsSpec)) refutationReturnsCard

/-- THE TIED CARD OF 'confluentlaw21.RefutationSound'. -/
def refutationSoundCard : Claim7 := { stood := { row := refutationSoundRow, standIns := [], harness := (true, "4e6fd414bef100933fe6144cfd7c8ef309a6823beefde35efe51a96d849b7e8c"), looks := true }, kinds := [], alts := [], laidByText := true, laidKinds := [.data, .data, .data, .data, .sentinel, .sentinel, .pinned], laidTests := true, laidLooks := .later }
def RefutationSoundCardSaid : Prop := Claim7.holds Tryz.pinned (.plain (OpenSpec.ofChange refutationSoundSpec)) refutationSoundCard

/-- THE TIED CARD OF 'confluentlaw21.RefutationFound'. -/
def refutationFoundCard : Claim7 := { stood := { row := refutationFoundRow, standIns := [], harness := (true, "4e6fd414bef100933fe6144cfd7c8ef309a6823beefde35efe51a96d849b7e8c"), looks := true }, kinds := [], alts := [], laidByText := true, laidKinds := [.data, .data, .data, .data, .sentinel, .sentinel, .pinned], laidTests := true, laidLooks := .later }
def RefutationFoundCardSaid : Prop := Claim7.holds Tryz.pinned (.plain (OpenSpec.ofChange refutationFoundSpec)) refutationFoundCard

/-- THE TIED CARD OF 'confluentlaw21.RefutationSmaller'. -/
def refutationSmallerCard : Claim7 := { stood := { row := refutationSmallerRow, standIns := [], harness := (true, "4e6fd414bef100933fe6144cfd7c8ef309a6823beefde35efe51a96d849b7e8c"), looks := true }, kinds := [], alts := [], laidByText := true, laidKinds := [.data, .data, .data, .data, .sentinel, .sentinel, .pinned], laidTests := true, laidLooks := .later }
def RefutationSmallerCardSaid : Prop := Claim7.holds Tryz.pinned (.plain (OpenSpec.ofChange refutationSmallerSpec)) refutationSmallerCard

/-- THE SECOND FORM's CARD OF 'confluentlaw21.RefutationForms'. -/
def refutationFormsUptoCard : Claim7 := { stood := { row := refutationFormsUptoRow, standIns := [], harness := (true, "4e6fd414bef100933fe6144cfd7c8ef309a6823beefde35efe51a96d849b7e8c"), looks := true }, kinds := [], alts := [], laidByText := true, laidKinds := [.data, .data, .data, .data, .sentinel, .sentinel, .pinned], laidTests := true, laidLooks := .later }
def RefutationFormsUptoCardSaid : Prop := Claim7.holds Tryz.pinned (.plain (OpenSpec.upto refutationFormsSpec)) refutationFormsUptoCard

/-- THE SECOND FORM's CARD OF 'confluentlaw21.RefutationChecks'. -/
def refutationChecksUptoCard : Claim7 := { stood := { row := refutationChecksUptoRow, standIns := [], harness := (true, "4e6fd414bef100933fe6144cfd7c8ef309a6823beefde35efe51a96d849b7e8c"), looks := true }, kinds := [], alts := [], laidByText := true, laidKinds := [.data, .data, .data, .data, .sentinel, .sentinel, .pinned], laidTests := true, laidLooks := .later }
def RefutationChecksUptoCardSaid : Prop := Claim7.holds Tryz.pinned (.plain (OpenSpec.upto refutationChecksSpec)) refutationChecksUptoCard

/-- THE SECOND FORM's CARD OF 'confluentlaw21.RefutationTrims'. -/
def refutationTrimsUptoCard : Claim7 := { stood := { row := refutationTrimsUptoRow, standIns := [], harness := (true, "4e6fd414bef100933fe6144cfd7c8ef309a6823beefde35efe51a96d849b7e8c"), looks := true }, kinds := [], alts := [], laidByText := true, laidKinds := [.data, .data, .data, .data, .sentinel, .sentinel, .pinned], laidTests := true, laidLooks := .later }
def RefutationTrimsUptoCardSaid : Prop := Claim7.holds Tryz.pinned (.plain (OpenSpec.upto refutationTrimsSpec)) refutationTrimsUptoCard

/-- THE SECOND FORM's CARD OF 'confluentlaw21.RefutationTexts'. -/
def refutationTextsUptoCard : Claim7 := { stood := { row := refutationTextsUptoRow, standIns := [], harness := (true, "4e6fd414bef100933fe6144cfd7c8ef309a6823beefde35efe51a96d849b7e8c"), looks := true }, kinds := [], alts := [], laidByText := true, laidKinds := [.data, .data, .data, .data, .sentinel, .sentinel, .pinned], laidTests := true, laidLooks := .later }
def RefutationTextsUptoCardSaid : Prop := Claim7.holds Tryz.pinned (.plain (OpenSpec.upto refutationTextsSpec)) refutationTextsUptoCard

/-- THE SECOND FORM's CARD OF 'confluentlaw21.RefutationReturns'. -/
def refutationReturnsUptoCard : Claim7 := { stood := { row := refutationReturnsUptoRow, standIns := [], harness := (true, "4e6fd414bef100933fe6144cfd7c8ef309a6823beefde35efe51a96d849b7e8c"), looks := true }, kinds := [], alts := [], laidByText := true, laidKinds := [.data, .data, .data, .data, .sentinel, .sentinel, .pinned], laidTests := true, laidLooks := .later }
def RefutationReturnsUptoCardSaid : Prop := Claim7.holds Tryz.pinned (.plain (OpenSpec.upto refutationReturnsSpec)) refutationReturnsUptoCard

/-- THE SECOND FORM's CARD OF 'confluentlaw21.RefutationSound'. -/
def refutationSoundUptoCard : Claim7 := { stood := { row := refutationSoundUptoRow, standIns := [], harness := (true, "4e6fd414bef100933fe6144cfd7c8ef309a6823beefde35efe51a96d849b7e8c"), looks := true }, kinds := [], alts := [], laidByText := true, laidKinds := [.data, .data, .data, .data, .sentinel, .sentinel, .pinned], laidTests := true, laidLooks := .later }
def RefutationSoundUptoCardSaid : Prop := Claim7.holds Tryz.pinned (.plain (OpenSpec.upto refutationSoundSpec)) refutationSoundUptoCard

/-- THE SECOND FORM's CARD OF 'confluentlaw21.RefutationFound'. -/
def refutationFoundUptoCard : Claim7 := { stood := { row := refutationFoundUptoRow, standIns := [], harness := (true, "4e6fd414bef100933fe6144cfd7c8ef309a6823beefde35efe51a96d849b7e8c"), looks := true }, kinds := [], alts := [], laidByText := true, laidKinds := [.data, .data, .data, .data, .sentinel, .sentinel, .pinned], laidTests := true, laidLooks := .later }
def RefutationFoundUptoCardSaid : Prop := Claim7.holds Tryz.pinned (.plain (OpenSpec.upto refutationFoundSpec)) refutationFoundUptoCard

/-- THE SECOND FORM's CARD OF 'confluentlaw21.RefutationSmaller'. -/
def refutationSmallerUptoCard : Claim7 := { stood := { row := refutationSmallerUptoRow, standIns := [], harness := (true, "4e6fd414bef100933fe6144cfd7c8ef309a6823beefde35efe51a96d849b7e8c"), looks := true }, kinds := [], alts := [], laidByText := true, laidKinds := [.data, .data, .data, .data, .sentinel, .sentinel, .pinned], laidTests := true, laidLooks := .later }
def RefutationSmallerUptoCardSaid : Prop := Claim7.holds Tryz.pinned (.plain (OpenSpec.upto refutationSmallerSpec)) refutationSmallerUptoCard
end Rows
end Go.Proofs.YtaleoeblooeglaaGreatDoor
