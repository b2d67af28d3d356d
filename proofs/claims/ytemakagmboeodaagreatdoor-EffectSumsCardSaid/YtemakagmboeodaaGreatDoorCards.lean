/-
  DERIVED. GIVEN WITH THE SEED: THE CARDS: each row of YtemakagmboeodaaGreatDoorRows.lean that lists a variable, with what it lists TIED to the program's text (the seventh form; the later family's looks); each row that meets fmt, with fmt's text TOLD by the authors' own Lean function (tested against real Go, not proved from fmt's source: count such statements apart). THE CARD IS WHAT COUNTS. Prove the row's statement (the work); the ties are given (YtemakagmboeodaaGreatDoorTie.lean); close each card by the builder's one call (the guide's Derived/Test/ToyasCard.lean, 'card_holds'). Laid BY PROGRAM, IN A SANDBOX (cutbox-door.mjs). By AI agents, Wed Nov 11 2026. No macro, syntax, notation, axiom, sorry.
-/
import Derived.Test.YtemakagmboeodaaGreatDoorRows
import GoSem.ClaimSeven
namespace Go.Proofs.YtemakagmboeodaaGreatDoor
namespace Rows

/-- THE TIED CARD OF 'confluentlaw11.EffectSums'. -/
def effectSumsCard : Claim7 := { stood := { row := effectSumsRow, standIns := [], harness := (true, "3e8084b7d36da8d178ad872dbdfdb1d69080837a5278b76cf99faa2b2f7278c1"), looks := true }, kinds := [], alts := [], laidByText := true, laidKinds := [.data, .data, .data, .data, .sentinel, .sentinel, .listed, .data, .pinned], laidTests := true, laidLooks := .later }
def EffectSumsCardSaid : Prop := Claim7.holds Tryz.pinned (.plain (OpenSpec.ofChange effectSumsSpec)) effectSumsCard

/-- THE SECOND FORM's CARD OF 'confluentlaw11.EffectSums'. -/
def effectSumsUptoCard : Claim7 := { stood := { row := effectSumsUptoRow, standIns := [], harness := (true, "3e8084b7d36da8d178ad872dbdfdb1d69080837a5278b76cf99faa2b2f7278c1"), looks := true }, kinds := [], alts := [], laidByText := true, laidKinds := [.data, .data, .data, .data, .sentinel, .sentinel, .listed, .data, .pinned], laidTests := true, laidLooks := .later }
def EffectSumsUptoCardSaid : Prop := Claim7.holds Tryz.pinned (.plain (OpenSpec.upto effectSumsSpec)) effectSumsUptoCard
end Rows
end Go.Proofs.YtemakagmboeodaaGreatDoor
