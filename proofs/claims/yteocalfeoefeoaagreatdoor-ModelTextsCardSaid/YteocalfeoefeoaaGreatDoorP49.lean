/- Texts of this claim, joined and written short by a program. -/
import Derived.Test.YteocalfeoefeoaaGreatDoorP09
import Derived.Test.YteocalfeoefeoaaGreatDoorP01
import Derived.Test.YteocalfeoefeoaaGreatDoorCards
import Derived.WalkKit
import Derived.ProofKit
import Derived.OpenShut
import Derived.ChangeSlices
import Derived.ChangeStays
import Derived.SizedLaws
import Derived.Deep.DeepHandedRow
import Derived.Deep.DeepLaidRun
import Derived.Lib.LaidTab
import Derived.JoinedCond
import Derived.Test.YteocalfeoefeoaaGreatDoorP38
import Derived.SevenTiedAt
import Derived.Test.YteocalfeoefeoaaGreatDoorP00
set_option linter.unusedVariables false
set_option linter.unusedSimpArgs false
set_option linter.unusedSectionVars false
namespace Go.Proofs.YteocalfeoefeoaaGreatDoor.texting
open Go Go.Abs Go.Abs.mN Go.Proofs Go.ChangeShapes Go.WideShapes Go.ChangeAt Go.RowKit
set_option maxRecDepth 100000
theorem looks:true=Tryz.prog.looks []:=by kernel_rfl
theorem asD:[30,3,3,9].all (fun t=>!Tryz.prog.wantsStandIn t)=true:=by kernel_rfl
theorem mainIs:Tryz.prog.mainIs=some (Rows.modelTextsCard.stood.harness.1,Rows.modelTextsCard.stood.harness.2.toList):=by kernel_rfl
theorem asE:Rows.modelTextsRow.wfByText (OpenSpec.ofChange Rows.modelTextsSpec)=true:=by kernel_rfl
end Go.Proofs.YteocalfeoefeoaaGreatDoor.texting
