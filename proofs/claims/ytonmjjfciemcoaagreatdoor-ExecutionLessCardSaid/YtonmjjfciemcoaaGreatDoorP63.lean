/- Texts of this claim, joined and written short by a program. -/
import Derived.Test.YtonmjjfciemcoaaGreatDoorP09
import Derived.Test.YtonmjjfciemcoaaGreatDoorP01
import Derived.Test.YtonmjjfciemcoaaGreatDoorCards
import Derived.WalkKit
import Derived.ProofKit
import Derived.OpenShut
import Derived.ChangeSlices
import Derived.ChangeStays
import Derived.SizedLaws
import Derived.Deep.DeepHandedRow
import Derived.Deep.DeepLaidRun
import Derived.Lib.LaidTab
import Derived.JoinedCond
import Derived.Test.YtonmjjfciemcoaaGreatDoorP36
import Derived.SevenTiedAt
import Derived.Test.YtonmjjfciemcoaaGreatDoorP00
set_option linter.unusedVariables false
set_option linter.unusedSimpArgs false
set_option linter.unusedSectionVars false
namespace Go.Proofs.YtonmjjfciemcoaaGreatDoor.lessening
open Go Go.Abs Go.Abs.bz Go.Proofs Go.ChangeShapes Go.WideShapes Go.ChangeAt Go.RowKit
set_option maxRecDepth 100000
theorem looks:true=Tryz.prog.looks []:=by kernel_rfl
theorem V9:[30,5,5,5,22].all (fun t=>!Tryz.prog.wantsStandIn t)=true:=by kernel_rfl
theorem mainIs:Tryz.prog.mainIs=some (Rows.executionLessCard.stood.harness.1,Rows.executionLessCard.stood.harness.2.toList):=by kernel_rfl
theorem Wa:Rows.executionLessRow.wfByText (OpenSpec.ofChange Rows.executionLessSpec)=true:=by kernel_rfl
end Go.Proofs.YtonmjjfciemcoaaGreatDoor.lessening
