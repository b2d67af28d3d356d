/-
  DERIVED. GIVEN WITH THE SEED: THE CARDS: each row of YtoimeckpnnkbpaaGreatDoorRows.lean that lists a variable, with what it lists TIED to the program's text (the seventh form; the later family's looks); each row that meets fmt, with fmt's text TOLD by the authors' own Lean function (tested against real Go, not proved from fmt's source: count such statements apart). THE CARD IS WHAT COUNTS. Prove the row's statement (the work); the ties are given (YtoimeckpnnkbpaaGreatDoorTie.lean); close each card by the builder's one call (the guide's Derived/Test/ToyasCard.lean, 'card_holds'). Laid BY PROGRAM, IN A SANDBOX (cutbox-door.mjs). By AI agents, Wed Nov 11 2026. No macro, syntax, notation, axiom, sorry.
-/
import Derived.Test.YtoimeckpnnkbpaaGreatDoorRows
import GoSem.ClaimSeven
namespace Go.Proofs.YtoimeckpnnkbpaaGreatDoor
namespace Rows

/-- THE TIED CARD OF 'confluentlaw14.StateValid'. -/
def stateValidCard : Claim7 := { stood := { row := stateValidRow, standIns := [], harness := (true, "7d2024de519119abe7a89614b9f6848d94359d2f74c68893bbdc8ee8048639d4"), looks := true }, kinds := [], alts := [], laidByText := true, laidKinds := [.data, .data, .data, .data, .sentinel, .sentinel, .listed, .data, .pinned], laidTests := true, laidLooks := .later }
def StateValidCardSaid : Prop := Claim7.holds Tryz.pinned (.plain (OpenSpec.ofChange stateValidSpec)) stateValidCard

/-- THE TIED CARD OF 'confluentlaw14.StateApplies'. -/
def stateAppliesCard : Claim7 := { stood := { row := stateAppliesRow, standIns := [], harness := (true, "7d2024de519119abe7a89614b9f6848d94359d2f74c68893bbdc8ee8048639d4"), looks := true }, kinds := [], alts := [], laidByText := true, laidKinds := [.data, .data, .data, .data, .sentinel, .sentinel, .listed, .data, .pinned], laidTests := true, laidLooks := .later }
def StateAppliesCardSaid : Prop := Claim7.holds Tryz.pinned (.plain (OpenSpec.ofChange stateAppliesSpec)) stateAppliesCard

/-- THE SECOND FORM's CARD OF 'confluentlaw14.StateValid'. -/
def stateValidUptoCard : Claim7 := { stood := { row := stateValidUptoRow, standIns := [], harness := (true, "7d2024de519119abe7a89614b9f6848d94359d2f74c68893bbdc8ee8048639d4"), looks := true }, kinds := [], alts := [], laidByText := true, laidKinds := [.data, .data, .data, .data, .sentinel, .sentinel, .listed, .data, .pinned], laidTests := true, laidLooks := .later }
def StateValidUptoCardSaid : Prop := Claim7.holds Tryz.pinned (.plain (OpenSpec.upto stateValidSpec)) stateValidUptoCard

/-- THE SECOND FORM's CARD OF 'confluentlaw14.StateApplies'. -/
def stateAppliesUptoCard : Claim7 := { stood := { row := stateAppliesUptoRow, standIns := [], harness := (true, "7d2024de519119abe7a89614b9f6848d94359d2f74c68893bbdc8ee8048639d4"), looks := true }, kinds := [], alts := [], laidByText := true, laidKinds := [.data, .data, .data, .data, .sentinel, .sentinel, .listed, .data, .pinned], laidTests := true, laidLooks := .later }
def StateAppliesUptoCardSaid : Prop := Claim7.holds Tryz.pinned (.plain (OpenSpec.upto stateAppliesSpec)) stateAppliesUptoCard
end Rows
end Go.Proofs.YtoimeckpnnkbpaaGreatDoor
