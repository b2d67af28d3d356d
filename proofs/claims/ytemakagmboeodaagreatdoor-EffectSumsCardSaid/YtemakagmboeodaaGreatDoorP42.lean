/- Texts of this claim, joined and written short by a program. -/
import Derived.Test.YtemakagmboeodaaGreatDoorP09
import Derived.Test.YtemakagmboeodaaGreatDoorP01
import Derived.Test.YtemakagmboeodaaGreatDoorCards
import Derived.WalkKit
import Derived.ProofKit
import Derived.OpenShut
import Derived.ChangeSlices
import Derived.ChangeStays
import Derived.SizedLaws
import Derived.Deep.DeepHandedRow
import Derived.Deep.DeepLaidRun
import Derived.Lib.LaidTab
import Derived.JoinedCond
import Derived.Test.YtemakagmboeodaaGreatDoorP31
import Derived.SevenTiedAt
import Derived.Test.YtemakagmboeodaaGreatDoorP00
set_option linter.unusedVariables false
set_option linter.unusedSimpArgs false
set_option linter.unusedSectionVars false
namespace Go.Proofs.YtemakagmboeodaaGreatDoor.adding
open Go Go.Abs Go.Abs.cb Go.Proofs Go.ChangeShapes Go.WideShapes Go.ChangeAt Go.RowKit
set_option maxRecDepth 100000
theorem looks:true=Tryz.prog.looks []:=by kernel_rfl
theorem ah1:[22,23,23,3].all (fun t=>!Tryz.prog.wantsStandIn t)=true:=by kernel_rfl
theorem mainIs:Tryz.prog.mainIs=some (Rows.effectSumsCard.stood.harness.1,Rows.effectSumsCard.stood.harness.2.toList):=by kernel_rfl
theorem ah2:Rows.effectSumsRow.wfByText (OpenSpec.ofChange Rows.effectSumsSpec)=true:=by kernel_rfl
end Go.Proofs.YtemakagmboeodaaGreatDoor.adding
