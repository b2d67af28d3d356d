/-
  DERIVED. GIVEN WITH THE SEED: THE CARDS: each row of YtklgjajhccjbjaaGreatDoorRows.lean that lists a variable, with what it lists TIED to the program's text (the seventh form; the later family's looks); each row that meets fmt, with fmt's text TOLD by the authors' own Lean function (tested against real Go, not proved from fmt's source: count such statements apart). THE CARD IS WHAT COUNTS. Prove the row's statement (the work); the ties are given (YtklgjajhccjbjaaGreatDoorTie.lean); close each card by the builder's one call (the guide's Derived/Test/ToyasCard.lean, 'card_holds'). Laid BY PROGRAM, IN A SANDBOX (cutbox-door.mjs). By AI agents, Wed Nov 11 2026. No macro, syntax, notation, axiom, sorry.
-/
import Derived.Test.YtklgjajhccjbjaaGreatDoorRows
import GoSem.ClaimSeven
namespace Go.Proofs.YtklgjajhccjbjaaGreatDoor
namespace Rows

/-- THE TIED CARD OF 'confluentlaw12.ConstraintHolds'. -/
def constraintHoldsCard : Claim7 := { stood := { row := constraintHoldsRow, standIns := [], harness := (true, "45dab20caaaebe58ffcd99442ec18e15c1f8619a93a66949fbd9d48d93ef28d0"), looks := true }, kinds := [], alts := [], laidByText := true, laidKinds := [.data, .data, .data, .data, .sentinel, .sentinel, .listed, .data, .pinned], laidTests := true, laidLooks := .later }
def ConstraintHoldsCardSaid : Prop := Claim7.holds Tryz.pinned (.plain (OpenSpec.ofChange constraintHoldsSpec)) constraintHoldsCard

/-- THE TIED CARD OF 'confluentlaw12.ConstraintCycles'. -/
def constraintCyclesCard : Claim7 := { stood := { row := constraintCyclesRow, standIns := [], harness := (true, "45dab20caaaebe58ffcd99442ec18e15c1f8619a93a66949fbd9d48d93ef28d0"), looks := true }, kinds := [], alts := [], laidByText := true, laidKinds := [.data, .data, .data, .data, .sentinel, .sentinel, .listed, .data, .pinned], laidTests := true, laidLooks := .later }
def ConstraintCyclesCardSaid : Prop := Claim7.holds Tryz.pinned (.plain (OpenSpec.ofChange constraintCyclesSpec)) constraintCyclesCard

/-- THE SECOND FORM's CARD OF 'confluentlaw12.ConstraintHolds'. -/
def constraintHoldsUptoCard : Claim7 := { stood := { row := constraintHoldsUptoRow, standIns := [], harness := (true, "45dab20caaaebe58ffcd99442ec18e15c1f8619a93a66949fbd9d48d93ef28d0"), looks := true }, kinds := [], alts := [], laidByText := true, laidKinds := [.data, .data, .data, .data, .sentinel, .sentinel, .listed, .data, .pinned], laidTests := true, laidLooks := .later }
def ConstraintHoldsUptoCardSaid : Prop := Claim7.holds Tryz.pinned (.plain (OpenSpec.upto constraintHoldsSpec)) constraintHoldsUptoCard

/-- THE SECOND FORM's CARD OF 'confluentlaw12.ConstraintCycles'. -/
def constraintCyclesUptoCard : Claim7 := { stood := { row := constraintCyclesUptoRow, standIns := [], harness := (true, "45dab20caaaebe58ffcd99442ec18e15c1f8619a93a66949fbd9d48d93ef28d0"), looks := true }, kinds := [], alts := [], laidByText := true, laidKinds := [.data, .data, .data, .data, .sentinel, .sentinel, .listed, .data, .pinned], laidTests := true, laidLooks := .later }
def ConstraintCyclesUptoCardSaid : Prop := Claim7.holds Tryz.pinned (.plain (OpenSpec.upto constraintCyclesSpec)) constraintCyclesUptoCard
end Rows
end Go.Proofs.YtklgjajhccjbjaaGreatDoor
