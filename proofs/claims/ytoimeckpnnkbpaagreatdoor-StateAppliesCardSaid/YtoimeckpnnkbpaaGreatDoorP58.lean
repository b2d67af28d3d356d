/- Texts of this claim, joined and written short by a program. -/
import Derived.Test.YtoimeckpnnkbpaaGreatDoorP09
import Derived.Test.YtoimeckpnnkbpaaGreatDoorP01
import Derived.Test.YtoimeckpnnkbpaaGreatDoorCards
import Derived.WalkKit
import Derived.ProofKit
import Derived.OpenShut
import Derived.ChangeSlices
import Derived.ChangeStays
import Derived.SizedLaws
import Derived.Deep.DeepHandedRow
import Derived.Deep.DeepLaidRun
import Derived.Lib.LaidTab
import Derived.JoinedCond
import Derived.Test.YtoimeckpnnkbpaaGreatDoorP39
import Derived.Test.YtoimeckpnnkbpaaGreatDoorP56
import Derived.SevenTiedAt
import Derived.Test.YtoimeckpnnkbpaaGreatDoorP00
set_option linter.unusedVariables false
set_option linter.unusedSimpArgs false
set_option linter.unusedSectionVars false
namespace Go.Proofs.YtoimeckpnnkbpaaGreatDoor.applying
open Go Go.Abs Go.Abs.hk Go.Proofs Go.ChangeShapes Go.WideShapes Go.ChangeAt Go.RowKit
set_option maxRecDepth 100000
set_option maxHeartbeats 4000000 in
theorem al2:(Rows.stateAppliesRow.unfollowed==Tryz.prog.unfollowed 4)=true:=by
 unfold Program.unfollowed;rw[T6];kernel_rfl
set_option maxHeartbeats 4000000 in
theorem bw:(Rows.stateAppliesRow.recurses==Tryz.prog.recurses 4)=true:=by
 unfold Program.recurses Program.unfollowed;rw[T6];kernel_rfl
end Go.Proofs.YtoimeckpnnkbpaaGreatDoor.applying
