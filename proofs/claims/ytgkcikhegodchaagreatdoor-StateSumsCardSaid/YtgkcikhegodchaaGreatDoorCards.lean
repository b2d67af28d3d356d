/-
  DERIVED. GIVEN WITH THE SEED: THE CARDS: each row of YtgkcikhegodchaaGreatDoorRows.lean that lists a variable, with what it lists TIED to the program's text (the seventh form; the later family's looks); each row that meets fmt, with fmt's text TOLD by the authors' own Lean function (tested against real Go, not proved from fmt's source: count such statements apart). THE CARD IS WHAT COUNTS. Prove the row's statement (the work); the ties are given (YtgkcikhegodchaaGreatDoorTie.lean); close each card by the builder's one call (the guide's Derived/Test/ToyasCard.lean, 'card_holds'). Laid BY PROGRAM, IN A SANDBOX (cutbox-door.mjs). By AI agents, Wed Nov 11 2026. No macro, syntax, notation, axiom, sorry.
-/
import Derived.Test.YtgkcikhegodchaaGreatDoorRows
import GoSem.ClaimSeven
namespace Go.Proofs.YtgkcikhegodchaaGreatDoor
namespace Rows

/-- THE TIED CARD OF 'confluentlaw14.StateVisible'. -/
def stateVisibleCard : Claim7 := { stood := { row := stateVisibleRow, standIns := [], harness := (true, "a9204d017b7a4368a50a4a40c31c889b21940f36d47e6c2b844a76c5bea1fdd3"), looks := true }, kinds := [], alts := [], laidByText := true, laidKinds := [.data, .data, .data, .data, .sentinel, .sentinel, .listed, .data, .pinned], laidTests := true, laidLooks := .later }
def StateVisibleCardSaid : Prop := Claim7.holds Tryz.pinned (.plain (OpenSpec.ofChange stateVisibleSpec)) stateVisibleCard

/-- THE TIED CARD OF 'confluentlaw14.StateHides'. -/
def stateHidesCard : Claim7 := { stood := { row := stateHidesRow, standIns := [], harness := (true, "a9204d017b7a4368a50a4a40c31c889b21940f36d47e6c2b844a76c5bea1fdd3"), looks := true }, kinds := [], alts := [], laidByText := true, laidKinds := [.data, .data, .data, .data, .sentinel, .sentinel, .listed, .data, .pinned], laidTests := true, laidLooks := .later }
def StateHidesCardSaid : Prop := Claim7.holds Tryz.pinned (.plain (OpenSpec.ofChange stateHidesSpec)) stateHidesCard

/-- THE TIED CARD OF 'confluentlaw14.StateSums'. -/
def stateSumsCard : Claim7 := { stood := { row := stateSumsRow, standIns := [], harness := (true, "a9204d017b7a4368a50a4a40c31c889b21940f36d47e6c2b844a76c5bea1fdd3"), looks := true }, kinds := [], alts := [], laidByText := true, laidKinds := [.data, .data, .data, .data, .sentinel, .sentinel, .listed, .data, .pinned], laidTests := true, laidLooks := .later }
def StateSumsCardSaid : Prop := Claim7.holds Tryz.pinned (.plain (OpenSpec.ofChange stateSumsSpec)) stateSumsCard

/-- THE SECOND FORM's CARD OF 'confluentlaw14.StateVisible'. -/
def stateVisibleUptoCard : Claim7 := { stood := { row := stateVisibleUptoRow, standIns := [], harness := (true, "a9204d017b7a4368a50a4a40c31c889b21940f36d47e6c2b844a76c5bea1fdd3"), looks := true }, kinds := [], alts := [], laidByText := true, laidKinds := [.data, .data, .data, .data, .sentinel, .sentinel, .listed, .data, .pinned], laidTests := true, laidLooks := .later }
def StateVisibleUptoCardSaid : Prop := Claim7.holds Tryz.pinned (.plain (OpenSpec.upto stateVisibleSpec)) stateVisibleUptoCard

/-- THE SECOND FORM's CARD OF 'confluentlaw14.StateHides'. -/
def stateHidesUptoCard : Claim7 := { stood := { row := stateHidesUptoRow, standIns := [], harness := (true, "a9204d017b7a4368a50a4a40c31c889b21940f36d47e6c2b844a76c5bea1fdd3"), looks := true }, kinds := [], alts := [], laidByText := true, laidKinds := [.data, .data, .data, .data, .sentinel, .sentinel, .listed, .data, .pinned], laidTests := true, laidLooks := .later }
def StateHidesUptoCardSaid : Prop := Claim7.holds Tryz.pinned (.plain (OpenSpec.upto stateHidesSpec)) stateHidesUptoCard

/-- THE SECOND FORM's CARD OF 'confluentlaw14.StateSums'. -/
def stateSumsUptoCard : Claim7 := { stood := { row := stateSumsUptoRow, standIns := [], harness := (true, "a9204d017b7a4368a50a4a40c31c889b21940f36d47e6c2b844a76c5bea1fdd3"), looks := true }, kinds := [], alts := [], laidByText := true, laidKinds := [.data, .data, .data, .data, .sentinel, .sentinel, .listed, .data, .pinned], laidTests := true, laidLooks := .later }
def StateSumsUptoCardSaid : Prop := Claim7.holds Tryz.pinned (.plain (OpenSpec.upto stateSumsSpec)) stateSumsUptoCard
end Rows
end Go.Proofs.YtgkcikhegodchaaGreatDoor
