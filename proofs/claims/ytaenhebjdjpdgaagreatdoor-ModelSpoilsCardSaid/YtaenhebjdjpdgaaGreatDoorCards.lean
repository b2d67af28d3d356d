/-
  DERIVED. GIVEN WITH THE SEED: THE CARDS: each row of YtaenhebjdjpdgaaGreatDoorRows.lean that lists a variable, with what it lists TIED to the program's text (the seventh form; the later family's looks); each row that meets fmt, with fmt's text TOLD by the authors' own Lean function (tested against real Go, not proved from fmt's source: count such statements apart). THE CARD IS WHAT COUNTS. Prove the row's statement (the work); the ties are given (YtaenhebjdjpdgaaGreatDoorTie.lean); close each card by the builder's one call (the guide's Derived/Test/ToyasCard.lean, 'card_holds'). Laid BY PROGRAM, IN A SANDBOX (cutbox-door.mjs). By AI agents, Wed Nov 11 2026. No macro, syntax, notation, axiom, sorry.
-/
import Derived.Test.YtaenhebjdjpdgaaGreatDoorRows
import GoSem.ClaimSeven
namespace Go.Proofs.YtaenhebjdjpdgaaGreatDoor
namespace Rows

/-- THE TIED CARD OF 'confluentlaw13.ModelsValid'. -/
def modelsValidCard : Claim7 := { stood := { row := modelsValidRow, standIns := [], harness := (true, "956ad854d692edfb8c52d201e97039425d95e39d8a31b0cb18d4e4938281c9f8"), looks := true }, kinds := [], alts := [], laidByText := true, laidKinds := [.data, .data, .data, .data, .sentinel, .sentinel, .listed, .data, .pinned], laidTests := true, laidLooks := .later }
def ModelsValidCardSaid : Prop := Claim7.holds Tryz.pinned (.plain (OpenSpec.ofChange modelsValidSpec)) modelsValidCard

/-- THE TIED CARD OF 'confluentlaw13.ModelSpoils'. -/
def modelSpoilsCard : Claim7 := { stood := { row := modelSpoilsRow, standIns := [], harness := (true, "956ad854d692edfb8c52d201e97039425d95e39d8a31b0cb18d4e4938281c9f8"), looks := true }, kinds := [], alts := [], laidByText := true, laidKinds := [.data, .data, .data, .data, .sentinel, .sentinel, .listed, .data, .pinned], laidTests := true, laidLooks := .later }
def ModelSpoilsCardSaid : Prop := Claim7.holds Tryz.pinned (.plain (OpenSpec.ofChange modelSpoilsSpec)) modelSpoilsCard

/-- THE SECOND FORM's CARD OF 'confluentlaw13.ModelsValid'. -/
def modelsValidUptoCard : Claim7 := { stood := { row := modelsValidUptoRow, standIns := [], harness := (true, "956ad854d692edfb8c52d201e97039425d95e39d8a31b0cb18d4e4938281c9f8"), looks := true }, kinds := [], alts := [], laidByText := true, laidKinds := [.data, .data, .data, .data, .sentinel, .sentinel, .listed, .data, .pinned], laidTests := true, laidLooks := .later }
def ModelsValidUptoCardSaid : Prop := Claim7.holds Tryz.pinned (.plain (OpenSpec.upto modelsValidSpec)) modelsValidUptoCard

/-- THE SECOND FORM's CARD OF 'confluentlaw13.ModelSpoils'. -/
def modelSpoilsUptoCard : Claim7 := { stood := { row := modelSpoilsUptoRow, standIns := [], harness := (true, "956ad854d692edfb8c52d201e97039425d95e39d8a31b0cb18d4e4938281c9f8"), looks := true }, kinds := [], alts := [], laidByText := true, laidKinds := [.data, .data, .data, .data, .sentinel, .sentinel, .listed, .data, .pinned], laidTests := true, laidLooks := .later }
def ModelSpoilsUptoCardSaid : Prop := Claim7.holds Tryz.pinned (.plain (OpenSpec.upto modelSpoilsSpec)) modelSpoilsUptoCard
end Rows
end Go.Proofs.YtaenhebjdjpdgaaGreatDoor
