/- Texts of this claim, joined and written short by a program. -/
import Derived.Test.YtjgngmpmjbkbpaaGreatDoorP16
import Derived.Test.YtjgngmpmjbkbpaaGreatDoorP01
import Derived.Test.YtjgngmpmjbkbpaaGreatDoorCards
import Derived.WalkKit
import Derived.ProofKit
import Derived.OpenShut
import Derived.ChangeSlices
import Derived.ChangeStays
import Derived.SizedLaws
import Derived.Deep.DeepHandedRow
import Derived.Deep.DeepLaidRun
import Derived.Lib.LaidTab
import Derived.JoinedCond
import Derived.Test.YtjgngmpmjbkbpaaGreatDoorP46
import Derived.SevenTiedAt
import Derived.Test.YtjgngmpmjbkbpaaGreatDoorP00
set_option linter.unusedVariables false
set_option linter.unusedSimpArgs false
set_option linter.unusedSectionVars false
namespace Go.Proofs.YtjgngmpmjbkbpaaGreatDoor.commuting
open Go Go.Abs Go.Abs.U Go.Proofs Go.ChangeShapes Go.WideShapes Go.ChangeAt Go.RowKit
set_option maxRecDepth 100000
theorem aqH : Tryz.prog.funcs.any Func.goes = false := by kernel_rfl
theorem aqI : false = Rows.executionCommutesRow.goesBy Tryz.prog := aqG aqH Rows.executionCommutesRow
end Go.Proofs.YtjgngmpmjbkbpaaGreatDoor.commuting
