/- Texts of this claim, joined and written short by a program. -/
import Derived.Test.YtonmjjfciemcoaaGreatDoorP09
import Derived.Test.YtonmjjfciemcoaaGreatDoorP01
import Derived.Test.YtonmjjfciemcoaaGreatDoorCards
import Derived.WalkKit
import Derived.ProofKit
import Derived.OpenShut
import Derived.ChangeSlices
import Derived.ChangeStays
import Derived.SizedLaws
import Derived.Deep.DeepHandedRow
import Derived.Deep.DeepLaidRun
import Derived.Lib.LaidTab
import Derived.JoinedCond
import Derived.Test.YtonmjjfciemcoaaGreatDoorP36
import Derived.SevenTiedAt
import Derived.Test.YtonmjjfciemcoaaGreatDoorP00
set_option linter.unusedVariables false
set_option linter.unusedSimpArgs false
set_option linter.unusedSectionVars false
namespace Go.Proofs.YtonmjjfciemcoaaGreatDoor.lessening
open Go Go.Abs Go.Abs.bz Go.Proofs Go.ChangeShapes Go.WideShapes Go.ChangeAt Go.RowKit
set_option maxRecDepth 100000
set_option maxHeartbeats 4000000 in
theorem Cz:mapsRowed Tryz.prog=true:=by kernel_rfl
set_option maxHeartbeats 4000000 in
theorem V5:(Rows.executionLessRow.lifted==Tryz.prog.liftsFinal)=true:=by kernel_rfl
set_option maxHeartbeats 4000000 in
theorem V6:(Tryz.prog.make==some Rows.executionLessRow.make)=true:=by kernel_rfl
end Go.Proofs.YtonmjjfciemcoaaGreatDoor.lessening
