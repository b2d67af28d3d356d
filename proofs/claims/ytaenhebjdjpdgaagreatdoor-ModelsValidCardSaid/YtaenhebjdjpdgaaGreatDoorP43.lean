/- Texts of this claim, joined and written short by a program. -/
import Derived.Test.YtaenhebjdjpdgaaGreatDoorP37
import Derived.JoinedCond
import Derived.Test.YtaenhebjdjpdgaaGreatDoorP40
import Derived.SevenTiedAt
import Derived.Test.YtaenhebjdjpdgaaGreatDoorP00
set_option linter.unusedVariables false
set_option linter.unusedSimpArgs false
namespace Go.Proofs.YtaenhebjdjpdgaaGreatDoor.validating
open Go Go.Abs Go.Abs.b1 Go.Proofs Go.ChangeShapes Go.WideShapes Go.ChangeAt Go.RowKit
set_option maxRecDepth 100000
theorem looks : true = Tryz.prog.looks [] := by kernel_rfl
theorem aqJ : [30].all (fun t => !Tryz.prog.wantsStandIn t) = true := by kernel_rfl
theorem mainIs : Tryz.prog.mainIs = some (Rows.modelsValidCard.stood.harness.1, Rows.modelsValidCard.stood.harness.2.toList) := by kernel_rfl
theorem aqK : Rows.modelsValidRow.wfByText (OpenSpec.ofChange Rows.modelsValidSpec) = true := by kernel_rfl
end Go.Proofs.YtaenhebjdjpdgaaGreatDoor.validating
