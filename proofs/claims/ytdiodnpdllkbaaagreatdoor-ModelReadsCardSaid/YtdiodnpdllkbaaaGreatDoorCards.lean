/-
  DERIVED. GIVEN WITH THE SEED: THE CARDS: each row of YtdiodnpdllkbaaaGreatDoorRows.lean that lists a variable, with what it lists TIED to the program's text (the seventh form; the later family's looks); each row that meets fmt, with fmt's text TOLD by the authors' own Lean function (tested against real Go, not proved from fmt's source: count such statements apart). THE CARD IS WHAT COUNTS. Prove the row's statement (the work); the ties are given (YtdiodnpdllkbaaaGreatDoorTie.lean); close each card by the builder's one call (the guide's Derived/Test/ToyasCard.lean, 'card_holds'). Laid BY PROGRAM, IN A SANDBOX (cutbox-door.mjs). By AI agents, Wed Nov 11 2026. No macro, syntax, notation, axiom, sorry.
-/
import Derived.Test.YtdiodnpdllkbaaaGreatDoorRows
import GoSem.ClaimSeven
namespace Go.Proofs.YtdiodnpdllkbaaaGreatDoor
namespace Rows

/-- THE TIED CARD OF 'confluentlaw13.ModelReads'. -/
def modelReadsCard : Claim7 := { stood := { row := modelReadsRow, standIns := [], harness := (true, "56a8dba198c66698b4a197e43daf42b352db6891bfc96cff73f61a538ac7304d"), looks := true }, kinds := [], alts := [], laidByText := true, laidKinds := [.data, .data, .data, .data, .sentinel, .sentinel, .listed, .data, .pinned], laidTests := true, laidLooks := .later }
def ModelReadsCardSaid : Prop := Claim7.holds Tryz.pinned (.plain (OpenSpec.ofChange modelReadsSpec)) modelReadsCard

/-- THE SECOND FORM's CARD OF 'confluentlaw13.ModelReads'. -/
def modelReadsUptoCard : Claim7 := { stood := { row := modelReadsUptoRow, standIns := [], harness := (true, "56a8dba198c66698b4a197e43daf42b352db6891bfc96cff73f61a538ac7304d"), looks := true }, kinds := [], alts := [], laidByText := true, laidKinds := [.data, .data, .data, .data, .sentinel, .sentinel, .listed, .data, .pinned], laidTests := true, laidLooks := .later }
def ModelReadsUptoCardSaid : Prop := Claim7.holds Tryz.pinned (.plain (OpenSpec.upto modelReadsSpec)) modelReadsUptoCard
end Rows
end Go.Proofs.YtdiodnpdllkbaaaGreatDoor
