/- Texts of this claim, joined and written short by a program. -/
import Derived.Test.YtjgngmpmjbkbpaaGreatDoorP18
import Derived.Test.YtjgngmpmjbkbpaaGreatDoorP00
set_option linter.unusedVariables false
set_option linter.unusedSimpArgs false
set_option linter.unusedSectionVars false
set_option maxRecDepth 100000
namespace Go.Abs.U
open Go Go.Abs Go.Proofs
noncomputable section
variable (g : Nat -> Option Obj)
def awO : List V := [HM]
def awP : V := .ba [.list 4 [.agg [aq 2, aq 0, aq 0, aq 4], .agg [aq 1, aq 4, aq 5, aq 6], .agg [aq 3, aq 6, aq 7, aq 8], .agg [aq 4, aq 8, aq 8, aq 9], .agg [aq 2, aq 9, aq 10, aq 18], .agg [aq 1, aq 18, aq 19, aq 20], .agg [aq 4, aq 20, aq 20, aq 21], .agg [aq 1, aq 21, aq 21, aq 22], .agg [aq 4, aq 22, aq 22, aq 23], .agg [aq 1, aq 23, aq 24, aq 25], .agg [aq 4, aq 25, aq 25, aq 26], .agg [aq 4, aq 26, aq 26, aq 27], .agg [aq 2, aq 27, aq 28, aq 37], .agg [aq 1, aq 37, aq 38, aq 39], .agg [aq 4, aq 39, aq 39, aq 40], .agg [aq 2, aq 40, aq 41, aq 46], .agg [aq 1, aq 46, aq 47, aq 48], .agg [aq 4, aq 48, aq 48, aq 49], .agg [aq 4, aq 49, aq 49, aq 50], .agg [aq 4, aq 50, aq 51, aq 53], .agg [aq 3, aq 53, aq 54, aq 55], .agg [aq 4, aq 55, aq 55, aq 56], .agg [aq 2, aq 56, aq 57, aq 66], .agg [aq 1, aq 66, aq 67, aq 68], .agg [aq 4, aq 68, aq 68, aq 69], .agg [aq 1, aq 69, aq 69, aq 70], .agg [aq 4, aq 70, aq 70, aq 71], .agg [aq 1, aq 71, aq 72, aq 73], .agg [aq 4, aq 73, aq 73, aq 74], .agg [aq 4, aq 74, aq 75, aq 76], .agg [aq 2, aq 76, aq 77, aq 83], .agg [aq 1, aq 83, aq 84, aq 85], .agg [aq 4, aq 85, aq 85, aq 86], .agg [aq 1, aq 86, aq 86, aq 87], .agg [aq 4, aq 87, aq 87, aq 88], .agg [aq 4, aq 88, aq 88, aq 89], .agg [aq 4, aq 89, aq 90, aq 91], .agg [aq 2, aq 91, aq 92, aq 101], .agg [aq 1, aq 101, aq 102, aq 103], .agg [aq 4, aq 103, aq 103, aq 104], .agg [aq 4, aq 104, aq 104, aq 105], .agg [aq 4, aq 105, aq 106, aq 107], .agg [aq 2, aq 107, aq 108, aq 112], .agg [aq 1, aq 112, aq 113, aq 114], .agg [aq 4, aq 114, aq 114, aq 115], .agg [aq 3, aq 115, aq 115, aq 116], .agg [aq 4, aq 116, aq 116, aq 117], .agg [aq 4, aq 117, aq 118, aq 120], .agg [aq 3, aq 120, aq 121, aq 122], .agg [aq 4, aq 122, aq 122, aq 123], .agg [aq 2, aq 123, aq 124, aq 130], .agg [aq 1, aq 130, aq 131, aq 132], .agg [aq 4, aq 132, aq 132, aq 133], .agg [aq 3, aq 133, aq 133, aq 134], .agg [aq 4, aq 134, aq 134, aq 135], .agg [aq 4, aq 135, aq 135, aq 136], .agg [aq 2, aq 136, aq 137, aq 143], .agg [aq 1, aq 143, aq 144, aq 145], .agg [aq 4, aq 145, aq 145, aq 146], .agg [aq 3, aq 146, aq 146, aq 147], .agg [aq 4, aq 147, aq 147, aq 148], .agg [aq 4, aq 148, aq 148, aq 149], .agg [aq 4, aq 149, aq 150, aq 151], .agg [aq 0, aq 151, aq 151, aq 151]], aq 0]
theorem aBF : cu (GJ g) 200 (.fn 105 [] []) awO [] = some (awP, [], 0) := by kernel_rfl
def awQ : List (List V × V) := [(awO, awP)]
theorem aBG : iS (GJ g) 200 105 awQ := ⟨⟨by kernel_rfl, aBF g⟩, trivial⟩
def GK : Nat -> Option ca := over (GJ g) 105 (iR awQ)
end
end Go.Abs.U
