/- Texts of this claim, joined and written short by a program. -/
import Derived.Test.YtaenhebjdjpdgaaGreatDoorP37
import Derived.JoinedCond
import Derived.Test.YtaenhebjdjpdgaaGreatDoorP40
import Derived.SevenTiedAt
import Derived.Test.YtaenhebjdjpdgaaGreatDoorP00
set_option linter.unusedVariables false
set_option linter.unusedSimpArgs false
set_option linter.unusedSectionVars false
namespace Go.Proofs.YtaenhebjdjpdgaaGreatDoor.spoiling
open Go Go.Abs Go.Abs.b1 Go.Proofs Go.ChangeShapes Go.WideShapes Go.ChangeAt Go.RowKit
set_option maxRecDepth 100000
theorem looks : true = Tryz.prog.looks [] := by kernel_rfl
theorem aqJ : [30, 5, 5].all (fun t => !Tryz.prog.wantsStandIn t) = true := by kernel_rfl
theorem mainIs : Tryz.prog.mainIs = some (Rows.modelSpoilsCard.stood.harness.1, Rows.modelSpoilsCard.stood.harness.2.toList) := by kernel_rfl
theorem aqK : Rows.modelSpoilsRow.wfByText (OpenSpec.ofChange Rows.modelSpoilsSpec) = true := by kernel_rfl
end Go.Proofs.YtaenhebjdjpdgaaGreatDoor.spoiling
