/- Texts of this claim, joined and written short by a program. -/
import Derived.Test.YtgkcikhegodchaaGreatDoorP09
import Derived.Test.YtgkcikhegodchaaGreatDoorP01
import Derived.Test.YtgkcikhegodchaaGreatDoorCards
import Derived.WalkKit
import Derived.ProofKit
import Derived.OpenShut
import Derived.ChangeSlices
import Derived.ChangeStays
import Derived.SizedLaws
import Derived.Deep.DeepHandedRow
import Derived.Deep.DeepLaidRun
import Derived.Lib.LaidTab
import Derived.JoinedCond
import Derived.Test.YtgkcikhegodchaaGreatDoorP39
import Derived.SevenTiedAt
import Derived.Test.YtgkcikhegodchaaGreatDoorP00
set_option linter.unusedVariables false
set_option linter.unusedSimpArgs false
set_option linter.unusedSectionVars false
namespace Go.Proofs.YtgkcikhegodchaaGreatDoor.hiding
open Go Go.Abs Go.Abs.bA Go.Proofs Go.ChangeShapes Go.WideShapes Go.ChangeAt Go.RowKit
set_option maxRecDepth 100000
theorem looks:true=Tryz.prog.looks []:=by kernel_rfl
theorem Vi:[30,22].all (fun t=>!Tryz.prog.wantsStandIn t)=true:=by kernel_rfl
theorem mainIs:Tryz.prog.mainIs=some (Rows.stateHidesCard.stood.harness.1,Rows.stateHidesCard.stood.harness.2.toList):=by kernel_rfl
theorem Vj:Rows.stateHidesRow.wfByText (OpenSpec.ofChange Rows.stateHidesSpec)=true:=by kernel_rfl
end Go.Proofs.YtgkcikhegodchaaGreatDoor.hiding
