/-
  DERIVED. GIVEN WITH THE SEED: THE CARDS: each row of YtjgngmpmjbkbpaaGreatDoorRows.lean that lists a variable, with what it lists TIED to the program's text (the seventh form; the later family's looks); each row that meets fmt, with fmt's text TOLD by the authors' own Lean function (tested against real Go, not proved from fmt's source: count such statements apart). THE CARD IS WHAT COUNTS. Prove the row's statement (the work); the ties are given (YtjgngmpmjbkbpaaGreatDoorTie.lean); close each card by the builder's one call (the guide's Derived/Test/ToyasCard.lean, 'card_holds'). Laid BY PROGRAM, IN A SANDBOX (cutbox-door.mjs). By AI agents, Wed Nov 11 2026. No macro, syntax, notation, axiom, sorry.
-/
import Derived.Test.YtjgngmpmjbkbpaaGreatDoorRows
import GoSem.ClaimSeven
namespace Go.Proofs.YtjgngmpmjbkbpaaGreatDoor
namespace Rows

/-- THE TIED CARD OF 'confluentlaw15.ExecutionCommutes'. -/
def executionCommutesCard : Claim7 := { stood := { row := executionCommutesRow, standIns := [], harness := (true, "e434456c20f6a286589c9c110f3dba831da52ff49cab5846d1cb74dfad137ded"), looks := true }, kinds := [], alts := [], laidByText := true, laidKinds := [.data, .data, .data, .data, .sentinel, .sentinel, .listed, .data, .pinned], laidTests := true, laidLooks := .later }
def ExecutionCommutesCardSaid : Prop := Claim7.holds Tryz.pinned (.plain (OpenSpec.ofChange executionCommutesSpec)) executionCommutesCard

/-- THE SECOND FORM's CARD OF 'confluentlaw15.ExecutionCommutes'. -/
def executionCommutesUptoCard : Claim7 := { stood := { row := executionCommutesUptoRow, standIns := [], harness := (true, "e434456c20f6a286589c9c110f3dba831da52ff49cab5846d1cb74dfad137ded"), looks := true }, kinds := [], alts := [], laidByText := true, laidKinds := [.data, .data, .data, .data, .sentinel, .sentinel, .listed, .data, .pinned], laidTests := true, laidLooks := .later }
def ExecutionCommutesUptoCardSaid : Prop := Claim7.holds Tryz.pinned (.plain (OpenSpec.upto executionCommutesSpec)) executionCommutesUptoCard
end Rows
end Go.Proofs.YtjgngmpmjbkbpaaGreatDoor
