/- What the row of ConstraintHolds says of the program. -/
import Derived.Test.YtklgjajhccjbjaaGreatDoorP19
import Derived.JoinedCond
import Derived.Test.YtklgjajhccjbjaaGreatDoorP21
import Derived.SevenTiedAt
set_option linter.unusedVariables false
set_option linter.unusedSimpArgs false
namespace Go.Proofs.YtklgjajhccjbjaaGreatDoor.holding
open Go Go.Abs Go.Abs.T12 Go.Proofs Go.ChangeShapes Go.WideShapes Go.ChangeAt Go.RowKit
set_option maxRecDepth 100000
theorem looks : true = Tryz.prog.looks [] := by kernel_rfl
theorem standFree : [26, 27].all (fun t => !Tryz.prog.wantsStandIn t) = true := by kernel_rfl
theorem mainIs : Tryz.prog.mainIs = some (Rows.constraintHoldsCard.stood.harness.1, Rows.constraintHoldsCard.stood.harness.2.toList) := by kernel_rfl
theorem wfText : Rows.constraintHoldsRow.wfByText (OpenSpec.ofChange Rows.constraintHoldsSpec) = true := by kernel_rfl
end Go.Proofs.YtklgjajhccjbjaaGreatDoor.holding
