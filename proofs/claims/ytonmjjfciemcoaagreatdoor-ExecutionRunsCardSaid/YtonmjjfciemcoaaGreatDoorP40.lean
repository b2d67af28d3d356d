/- Texts of this claim, joined and written short by a program. -/
import Derived.Test.YtonmjjfciemcoaaGreatDoorP09
import Derived.Test.YtonmjjfciemcoaaGreatDoorP01
import Derived.Test.YtonmjjfciemcoaaGreatDoorCards
import Derived.WalkKit
import Derived.ProofKit
import Derived.OpenShut
import Derived.ChangeSlices
import Derived.ChangeStays
import Derived.SizedLaws
import Derived.Deep.DeepHandedRow
import Derived.Deep.DeepLaidRun
import Derived.Lib.LaidTab
import Derived.JoinedCond
import Derived.Test.YtonmjjfciemcoaaGreatDoorP35
import Derived.Test.YtonmjjfciemcoaaGreatDoorP37
import Derived.SevenTiedAt
import Derived.Test.YtonmjjfciemcoaaGreatDoorP00
set_option linter.unusedVariables false
set_option linter.unusedSimpArgs false
set_option linter.unusedSectionVars false
namespace Go.Proofs.YtonmjjfciemcoaaGreatDoor.running
open Go Go.Abs Go.Abs.hk Go.Proofs Go.ChangeShapes Go.WideShapes Go.ChangeAt Go.RowKit
set_option maxRecDepth 100000
set_option maxHeartbeats 4000000 in
theorem fo:(Rows.executionRunsRow.named==Tryz.prog.varsNamed 4)=true:=by
 unfold Program.varsNamed;rw[mN];kernel_rfl
end Go.Proofs.YtonmjjfciemcoaaGreatDoor.running
