/-
  DERIVED. GIVEN WITH THE SEED: THE CARDS: each row of YteocalfeoefeoaaGreatDoorRows.lean that lists a variable, with what it lists TIED to the program's text (the seventh form; the later family's looks); each row that meets fmt, with fmt's text TOLD by the authors' own Lean function (tested against real Go, not proved from fmt's source: count such statements apart). THE CARD IS WHAT COUNTS. Prove the row's statement (the work); the ties are given (YteocalfeoefeoaaGreatDoorTie.lean); close each card by the builder's one call (the guide's Derived/Test/ToyasCard.lean, 'card_holds'). Laid BY PROGRAM, IN A SANDBOX (cutbox-door.mjs). By AI agents, Wed Nov 11 2026. No macro, syntax, notation, axiom, sorry.
-/
import Derived.Test.YteocalfeoefeoaaGreatDoorRows
import GoSem.ClaimSeven
namespace Go.Proofs.YteocalfeoefeoaaGreatDoor
namespace Rows

/-- THE TIED CARD OF 'confluentlaw13.ModelTexts'. -/
def modelTextsCard : Claim7 := { stood := { row := modelTextsRow, standIns := [], harness := (true, "237dcb2ecfcaf709fe392db57bf1a2a61fa23460c3105445c1a381904fb59e0d"), looks := true }, kinds := [], alts := [], laidByText := true, laidKinds := [.data, .data, .data, .data, .sentinel, .sentinel, .listed, .data, .pinned], laidTests := true, laidLooks := .later }
def ModelTextsCardSaid : Prop := Claim7.holds Tryz.pinned (.plain (OpenSpec.ofChange modelTextsSpec)) modelTextsCard

/-- THE SECOND FORM's CARD OF 'confluentlaw13.ModelTexts'. -/
def modelTextsUptoCard : Claim7 := { stood := { row := modelTextsUptoRow, standIns := [], harness := (true, "237dcb2ecfcaf709fe392db57bf1a2a61fa23460c3105445c1a381904fb59e0d"), looks := true }, kinds := [], alts := [], laidByText := true, laidKinds := [.data, .data, .data, .data, .sentinel, .sentinel, .listed, .data, .pinned], laidTests := true, laidLooks := .later }
def ModelTextsUptoCardSaid : Prop := Claim7.holds Tryz.pinned (.plain (OpenSpec.upto modelTextsSpec)) modelTextsUptoCard
end Rows
end Go.Proofs.YteocalfeoefeoaaGreatDoor
