/- What the row of ConstraintCycles says of the program. -/
import Derived.Test.YtklgjajhccjbjaaGreatDoorP11
import Derived.JoinedCond
import Derived.Test.YtklgjajhccjbjaaGreatDoorP17
import Derived.SevenTiedAt
set_option linter.unusedVariables false
set_option linter.unusedSimpArgs false
namespace Go.Proofs.YtklgjajhccjbjaaGreatDoor.cycles
open Go Go.Abs Go.Abs.T12 Go.Proofs Go.ChangeShapes Go.WideShapes Go.ChangeAt Go.RowKit
set_option maxRecDepth 100000
theorem looks : true = Tryz.prog.looks [] := by kernel_rfl
theorem standFree : [5, 34, 5, 5].all (fun t => !Tryz.prog.wantsStandIn t) = true := by kernel_rfl
theorem mainIs : Tryz.prog.mainIs = some (Rows.constraintCyclesCard.stood.harness.1, Rows.constraintCyclesCard.stood.harness.2.toList) := by kernel_rfl
theorem wfText : Rows.constraintCyclesRow.wfByText (OpenSpec.ofChange Rows.constraintCyclesSpec) = true := by kernel_rfl
end Go.Proofs.YtklgjajhccjbjaaGreatDoor.cycles
