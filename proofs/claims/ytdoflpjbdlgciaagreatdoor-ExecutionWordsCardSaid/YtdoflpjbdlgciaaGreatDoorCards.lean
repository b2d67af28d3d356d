/-
  DERIVED. GIVEN WITH THE SEED: THE CARDS: each row of YtdoflpjbdlgciaaGreatDoorRows.lean that lists a variable, with what it lists TIED to the program's text (the seventh form; the later family's looks); each row that meets fmt, with fmt's text TOLD by the authors' own Lean function (tested against real Go, not proved from fmt's source: count such statements apart). THE CARD IS WHAT COUNTS. Prove the row's statement (the work); the ties are given (YtdoflpjbdlgciaaGreatDoorTie.lean); close each card by the builder's one call (the guide's Derived/Test/ToyasCard.lean, 'card_holds'). Laid BY PROGRAM, IN A SANDBOX (cutbox-door.mjs). By AI agents, Wed Nov 11 2026. No macro, syntax, notation, axiom, sorry.
-/
import Derived.Test.YtdoflpjbdlgciaaGreatDoorRows
import GoSem.ClaimSeven
namespace Go.Proofs.YtdoflpjbdlgciaaGreatDoor
namespace Rows

/-- THE TIED CARD OF 'confluentlaw15.ExecutionWords'. -/
def executionWordsCard : Claim7 := { stood := { row := executionWordsRow, standIns := [], harness := (true, "a3b6a8406b400dc2d47acef1b6936c3157e791990b4c74782787d7b36dd73e19"), looks := true }, kinds := [], alts := [], laidByText := true, laidKinds := [.data, .data, .data, .data, .sentinel, .sentinel, .listed, .data, .pinned], laidTests := true, laidLooks := .later }
def ExecutionWordsCardSaid : Prop := Claim7.holds Tryz.pinned (.plain (OpenSpec.ofChange executionWordsSpec)) executionWordsCard

/-- THE SECOND FORM's CARD OF 'confluentlaw15.ExecutionWords'. -/
def executionWordsUptoCard : Claim7 := { stood := { row := executionWordsUptoRow, standIns := [], harness := (true, "a3b6a8406b400dc2d47acef1b6936c3157e791990b4c74782787d7b36dd73e19"), looks := true }, kinds := [], alts := [], laidByText := true, laidKinds := [.data, .data, .data, .data, .sentinel, .sentinel, .listed, .data, .pinned], laidTests := true, laidLooks := .later }
def ExecutionWordsUptoCardSaid : Prop := Claim7.holds Tryz.pinned (.plain (OpenSpec.upto executionWordsSpec)) executionWordsUptoCard
end Rows
end Go.Proofs.YtdoflpjbdlgciaaGreatDoor
