/- Texts of this claim, joined and written short by a program. -/
import Derived.Test.YtjgngmpmjbkbpaaGreatDoorP16
import Derived.Test.YtjgngmpmjbkbpaaGreatDoorP01
import Derived.Test.YtjgngmpmjbkbpaaGreatDoorCards
import Derived.WalkKit
import Derived.ProofKit
import Derived.OpenShut
import Derived.ChangeSlices
import Derived.ChangeStays
import Derived.SizedLaws
import Derived.Deep.DeepHandedRow
import Derived.Deep.DeepLaidRun
import Derived.Lib.LaidTab
import Derived.JoinedCond
import Derived.Test.YtjgngmpmjbkbpaaGreatDoorP46
import Derived.SevenTiedAt
import Derived.Test.YtjgngmpmjbkbpaaGreatDoorP00
set_option linter.unusedVariables false
set_option linter.unusedSimpArgs false
set_option linter.unusedSectionVars false
namespace Go.Proofs.YtjgngmpmjbkbpaaGreatDoor.commuting
open Go Go.Abs Go.Abs.U Go.Proofs Go.ChangeShapes Go.WideShapes Go.ChangeAt Go.RowKit
set_option maxRecDepth 100000
theorem looks : true = Tryz.prog.looks [] := by kernel_rfl
theorem aqJ : [30, 5, 5, 22].all (fun t => !Tryz.prog.wantsStandIn t) = true := by kernel_rfl
theorem mainIs : Tryz.prog.mainIs = some (Rows.executionCommutesCard.stood.harness.1, Rows.executionCommutesCard.stood.harness.2.toList) := by kernel_rfl
theorem aqK : Rows.executionCommutesRow.wfByText (OpenSpec.ofChange Rows.executionCommutesSpec) = true := by kernel_rfl
end Go.Proofs.YtjgngmpmjbkbpaaGreatDoor.commuting
