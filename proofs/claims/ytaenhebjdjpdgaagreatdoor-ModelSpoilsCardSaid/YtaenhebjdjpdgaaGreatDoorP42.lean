/- Texts of this claim, joined and written short by a program. -/
import Derived.Test.YtaenhebjdjpdgaaGreatDoorP37
import Derived.JoinedCond
import Derived.Test.YtaenhebjdjpdgaaGreatDoorP40
import Derived.SevenTiedAt
import Derived.Test.YtaenhebjdjpdgaaGreatDoorP00
set_option linter.unusedVariables false
set_option linter.unusedSimpArgs false
set_option linter.unusedSectionVars false
namespace Go.Proofs.YtaenhebjdjpdgaaGreatDoor.spoiling
open Go Go.Abs Go.Abs.b1 Go.Proofs Go.ChangeShapes Go.WideShapes Go.ChangeAt Go.RowKit
set_option maxRecDepth 100000
theorem aqH : Tryz.prog.funcs.any Func.goes = false := by kernel_rfl
theorem aqI : false = Rows.modelSpoilsRow.goesBy Tryz.prog := aqG aqH Rows.modelSpoilsRow
end Go.Proofs.YtaenhebjdjpdgaaGreatDoor.spoiling
