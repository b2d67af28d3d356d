/- What the row of ConstraintHolds says of the program. -/
import Derived.Test.YtklgjajhccjbjaaGreatDoorP19
import Derived.JoinedCond
import Derived.Test.YtklgjajhccjbjaaGreatDoorP21
import Derived.SevenTiedAt
set_option linter.unusedVariables false
set_option linter.unusedSimpArgs false
namespace Go.Proofs.YtklgjajhccjbjaaGreatDoor.holding
open Go Go.Abs Go.Abs.T12 Go.Proofs Go.ChangeShapes Go.WideShapes Go.ChangeAt Go.RowKit
set_option maxRecDepth 100000
theorem noneGoes : Tryz.prog.funcs.any Func.goes = false := by kernel_rfl
theorem goesNot : false = Rows.constraintHoldsRow.goesBy Tryz.prog := goesBy_of noneGoes Rows.constraintHoldsRow
end Go.Proofs.YtklgjajhccjbjaaGreatDoor.holding
