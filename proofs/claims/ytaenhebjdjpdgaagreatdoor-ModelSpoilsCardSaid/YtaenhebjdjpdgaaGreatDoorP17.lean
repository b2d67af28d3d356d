/- Texts of this claim, joined and written short by a program. -/
import Derived.Test.YtaenhebjdjpdgaaGreatDoorP16
import Derived.Test.YtaenhebjdjpdgaaGreatDoorP00
set_option linter.unusedVariables false
set_option linter.unusedSimpArgs false
set_option linter.unusedSectionVars false
set_option maxRecDepth 100000
namespace Go.Abs.b1
open Go Go.Abs Go.Proofs
noncomputable section
variable (g : Nat -> Option Obj)
def Um : List V := [Ql]
def Un : V := .ba [.list 4 [.agg [aq 2, aq 0, aq 0, aq 4], .agg [aq 1, aq 4, aq 5, aq 6], .agg [aq 3, aq 6, aq 7, aq 8], .agg [aq 4, aq 8, aq 8, aq 9], .agg [aq 2, aq 9, aq 10, aq 18], .agg [aq 1, aq 18, aq 19, aq 20], .agg [aq 4, aq 20, aq 20, aq 21], .agg [aq 1, aq 21, aq 21, aq 22], .agg [aq 4, aq 22, aq 22, aq 23], .agg [aq 1, aq 23, aq 24, aq 25], .agg [aq 4, aq 25, aq 25, aq 26], .agg [aq 4, aq 26, aq 26, aq 27], .agg [aq 2, aq 27, aq 28, aq 37], .agg [aq 1, aq 37, aq 38, aq 39], .agg [aq 4, aq 39, aq 39, aq 40], .agg [aq 1, aq 40, aq 40, aq 41], .agg [aq 4, aq 41, aq 41, aq 42], .agg [aq 1, aq 42, aq 43, aq 44], .agg [aq 4, aq 44, aq 44, aq 45], .agg [aq 4, aq 45, aq 46, aq 47], .agg [aq 2, aq 47, aq 48, aq 55], .agg [aq 1, aq 55, aq 56, aq 57], .agg [aq 4, aq 57, aq 58, aq 60], .agg [aq 3, aq 60, aq 61, aq 62], .agg [aq 4, aq 62, aq 62, aq 63], .agg [aq 2, aq 63, aq 64, aq 70], .agg [aq 1, aq 70, aq 71, aq 72], .agg [aq 4, aq 72, aq 72, aq 73], .agg [aq 1, aq 73, aq 73, aq 74], .agg [aq 4, aq 74, aq 74, aq 75], .agg [aq 4, aq 75, aq 75, aq 76], .agg [aq 4, aq 76, aq 77, aq 78], .agg [aq 0, aq 78, aq 78, aq 78]], aq 0]
theorem ae3 : cu (GH g) 200 (.fn 166 [] []) Um [] = some (Un, [], 0) := by kernel_rfl
def Uo : List (List V × V) := [(Um, Un)]
theorem ae4 : iS (GH g) 200 166 Uo := ⟨⟨by kernel_rfl, ae3 g⟩, trivial⟩
def GI : Nat -> Option ca := over (GH g) 166 (iR Uo)
end
end Go.Abs.b1
