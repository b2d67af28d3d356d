/-
  DERIVED. GIVEN WITH THE SEED: THE CARDS: each row of YtonmjjfciemcoaaGreatDoorRows.lean that lists a variable, with what it lists TIED to the program's text (the seventh form; the later family's looks); each row that meets fmt, with fmt's text TOLD by the authors' own Lean function (tested against real Go, not proved from fmt's source: count such statements apart). THE CARD IS WHAT COUNTS. Prove the row's statement (the work); the ties are given (YtonmjjfciemcoaaGreatDoorTie.lean); close each card by the builder's one call (the guide's Derived/Test/ToyasCard.lean, 'card_holds'). Laid BY PROGRAM, IN A SANDBOX (cutbox-door.mjs). By AI agents, Wed Nov 11 2026. No macro, syntax, notation, axiom, sorry.
-/
import Derived.Test.YtonmjjfciemcoaaGreatDoorRows
import GoSem.ClaimSeven
namespace Go.Proofs.YtonmjjfciemcoaaGreatDoor
namespace Rows

/-- THE TIED CARD OF 'confluentlaw15.ExecutionChecks'. -/
def executionChecksCard : Claim7 := { stood := { row := executionChecksRow, standIns := [], harness := (true, "b5727d1b79ca204372b8d5df34ea4c090421c8593b6f5c1ccbb31903b0c16bb4"), looks := true }, kinds := [], alts := [], laidByText := true, laidKinds := [.data, .data, .data, .data, .sentinel, .sentinel, .listed, .data, .pinned], laidTests := true, laidLooks := .later }
def ExecutionChecksCardSaid : Prop := Claim7.holds Tryz.pinned (.plain (OpenSpec.ofChange executionChecksSpec)) executionChecksCard

/-- THE TIED CARD OF 'confluentlaw15.ExecutionRuns'. -/
def executionRunsCard : Claim7 := { stood := { row := executionRunsRow, standIns := [], harness := (true, "b5727d1b79ca204372b8d5df34ea4c090421c8593b6f5c1ccbb31903b0c16bb4"), looks := true }, kinds := [], alts := [], laidByText := true, laidKinds := [.data, .data, .data, .data, .sentinel, .sentinel, .listed, .data, .pinned], laidTests := true, laidLooks := .later }
def ExecutionRunsCardSaid : Prop := Claim7.holds Tryz.pinned (.plain (OpenSpec.ofChange executionRunsSpec)) executionRunsCard

/-- THE TIED CARD OF 'confluentlaw15.ExecutionValid'. -/
def executionValidCard : Claim7 := { stood := { row := executionValidRow, standIns := [], harness := (true, "b5727d1b79ca204372b8d5df34ea4c090421c8593b6f5c1ccbb31903b0c16bb4"), looks := true }, kinds := [], alts := [], laidByText := true, laidKinds := [.data, .data, .data, .data, .sentinel, .sentinel, .listed, .data, .pinned], laidTests := true, laidLooks := .later }
def ExecutionValidCardSaid : Prop := Claim7.holds Tryz.pinned (.plain (OpenSpec.ofChange executionValidSpec)) executionValidCard

/-- THE TIED CARD OF 'confluentlaw15.ExecutionLess'. -/
def executionLessCard : Claim7 := { stood := { row := executionLessRow, standIns := [], harness := (true, "b5727d1b79ca204372b8d5df34ea4c090421c8593b6f5c1ccbb31903b0c16bb4"), looks := true }, kinds := [], alts := [], laidByText := true, laidKinds := [.data, .data, .data, .data, .sentinel, .sentinel, .listed, .data, .pinned], laidTests := true, laidLooks := .later }
def ExecutionLessCardSaid : Prop := Claim7.holds Tryz.pinned (.plain (OpenSpec.ofChange executionLessSpec)) executionLessCard

/-- THE SECOND FORM's CARD OF 'confluentlaw15.ExecutionChecks'. -/
def executionChecksUptoCard : Claim7 := { stood := { row := executionChecksUptoRow, standIns := [], harness := (true, "b5727d1b79ca204372b8d5df34ea4c090421c8593b6f5c1ccbb31903b0c16bb4"), looks := true }, kinds := [], alts := [], laidByText := true, laidKinds := [.data, .data, .data, .data, .sentinel, .sentinel, .listed, .data, .pinned], laidTests := true, laidLooks := .later }
def ExecutionChecksUptoCardSaid : Prop := Claim7.holds Tryz.pinned (.plain (OpenSpec.upto executionChecksSpec)) executionChecksUptoCard

/-- THE SECOND FORM's CARD OF 'confluentlaw15.ExecutionRuns'. -/
def executionRunsUptoCard : Claim7 := { stood := { row := executionRunsUptoRow, standIns := [], harness := (true, "b5727d1b79ca204372b8d5df34ea4c090421c8593b6f5c1ccbb31903b0c16bb4"), looks := true }, kinds := [], alts := [], laidByText := true, laidKinds := [.data, .data, .data, .data, .sentinel, .sentinel, .listed, .data, .pinned], laidTests := true, laidLooks := .later }
def ExecutionRunsUptoCardSaid : Prop := Claim7.holds Tryz.pinned (.plain (OpenSpec.upto executionRunsSpec)) executionRunsUptoCard

/-- THE SECOND FORM's CARD OF 'confluentlaw15.ExecutionValid'. -/
def executionValidUptoCard : Claim7 := { stood := { row := executionValidUptoRow, standIns := [], harness := (true, "b5727d1b79ca204372b8d5df34ea4c090421c8593b6f5c1ccbb31903b0c16bb4"), looks := true }, kinds := [], alts := [], laidByText := true, laidKinds := [.data, .data, .data, .data, .sentinel, .sentinel, .listed, .data, .pinned], laidTests := true, laidLooks := .later }
def ExecutionValidUptoCardSaid : Prop := Claim7.holds Tryz.pinned (.plain (OpenSpec.upto executionValidSpec)) executionValidUptoCard

/-- THE SECOND FORM's CARD OF 'confluentlaw15.ExecutionLess'. -/
def executionLessUptoCard : Claim7 := { stood := { row := executionLessUptoRow, standIns := [], harness := (true, "b5727d1b79ca204372b8d5df34ea4c090421c8593b6f5c1ccbb31903b0c16bb4"), looks := true }, kinds := [], alts := [], laidByText := true, laidKinds := [.data, .data, .data, .data, .sentinel, .sentinel, .listed, .data, .pinned], laidTests := true, laidLooks := .later }
def ExecutionLessUptoCardSaid : Prop := Claim7.holds Tryz.pinned (.plain (OpenSpec.upto executionLessSpec)) executionLessUptoCard
end Rows
end Go.Proofs.YtonmjjfciemcoaaGreatDoor
