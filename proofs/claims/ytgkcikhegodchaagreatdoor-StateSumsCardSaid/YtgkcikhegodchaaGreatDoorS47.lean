/- Texts of this claim, joined and written short by a program. -/
import Derived.Test.YtgkcikhegodchaaGreatDoorS09
import Derived.Test.YtgkcikhegodchaaGreatDoorS01
import Derived.Test.YtgkcikhegodchaaGreatDoorCards
import Derived.WalkKit
import Derived.ProofKit
import Derived.OpenShut
import Derived.ChangeSlices
import Derived.ChangeStays
import Derived.SizedLaws
import Derived.Deep.DeepHandedRow
import Derived.Deep.DeepLaidRun
import Derived.Lib.LaidTab
import Derived.JoinedCond
import Derived.Test.YtgkcikhegodchaaGreatDoorS39
import Derived.SevenTiedAt
import Derived.Test.YtgkcikhegodchaaGreatDoorS00
set_option linter.unusedVariables false
set_option linter.unusedSimpArgs false
set_option linter.unusedSectionVars false
namespace Go.Proofs.YtgkcikhegodchaaGreatDoor.summing
open Go Go.Abs Go.Abs.bs Go.Proofs Go.ChangeShapes Go.WideShapes Go.ChangeAt Go.RowKit
set_option maxRecDepth 100000
set_option maxHeartbeats 4000000 in
theorem L4:mapsRowed Tryz.prog=true:=by kernel_rfl
set_option maxHeartbeats 4000000 in
theorem azn:(Rows.stateSumsRow.lifted==Tryz.prog.liftsFinal)=true:=by kernel_rfl
set_option maxHeartbeats 4000000 in
theorem azo:(Tryz.prog.make==some Rows.stateSumsRow.make)=true:=by kernel_rfl
end Go.Proofs.YtgkcikhegodchaaGreatDoor.summing
