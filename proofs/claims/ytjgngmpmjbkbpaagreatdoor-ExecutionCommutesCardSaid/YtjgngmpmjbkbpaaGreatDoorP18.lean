/- Texts of this claim, joined and written short by a program. -/
import Derived.Test.YtjgngmpmjbkbpaaGreatDoorP17
import Derived.Test.YtjgngmpmjbkbpaaGreatDoorP00
set_option linter.unusedVariables false
set_option linter.unusedSimpArgs false
set_option linter.unusedSectionVars false
set_option maxRecDepth 100000
namespace Go.Abs.U
open Go Go.Abs Go.Proofs
noncomputable section
variable (g : Nat -> Option Obj)
def awL : List V := [ZK]
def awM : V := .ba [wc, .c0, aq 0]
theorem aBD : cu (GI g) 200 (.fn 28 [] []) awL [] = some (awM, [], 0) := by kernel_rfl
def awN : List (List V × V) := [(awL, awM)]
theorem aBE : iS (GI g) 200 28 awN := ⟨⟨by kernel_rfl, aBD g⟩, trivial⟩
def GJ : Nat -> Option ca := over (GI g) 28 (iR awN)
end
end Go.Abs.U
