/- Texts of this claim, joined and written short by a program. -/
import Derived.Test.YtdiodnpdllkbaaaGreatDoorP14
import Derived.Test.YtdiodnpdllkbaaaGreatDoorP01
import Derived.Test.YtdiodnpdllkbaaaGreatDoorCards
import Derived.WalkKit
import Derived.ProofKit
import Derived.OpenShut
import Derived.ChangeSlices
import Derived.ChangeStays
import Derived.SizedLaws
import Derived.Deep.DeepHandedRow
import Derived.Deep.DeepLaidRun
import Derived.Lib.LaidTab
import Derived.JoinedCond
import Derived.Test.YtdiodnpdllkbaaaGreatDoorP40
import Derived.SevenTiedAt
import Derived.Test.YtdiodnpdllkbaaaGreatDoorP00
set_option linter.unusedVariables false
set_option linter.unusedSimpArgs false
set_option linter.unusedSectionVars false
namespace Go.Proofs.YtdiodnpdllkbaaaGreatDoor.reading
open Go Go.Abs Go.Abs.bw Go.Proofs Go.ChangeShapes Go.WideShapes Go.ChangeAt Go.RowKit
set_option maxRecDepth 100000
theorem looks:true=Tryz.prog.looks []:=by kernel_rfl
theorem asD:[30,5].all (fun t=>!Tryz.prog.wantsStandIn t)=true:=by kernel_rfl
theorem mainIs:Tryz.prog.mainIs=some (Rows.modelReadsCard.stood.harness.1,Rows.modelReadsCard.stood.harness.2.toList):=by kernel_rfl
theorem asE:Rows.modelReadsRow.wfByText (OpenSpec.ofChange Rows.modelReadsSpec)=true:=by kernel_rfl
end Go.Proofs.YtdiodnpdllkbaaaGreatDoor.reading
