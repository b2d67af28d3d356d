/- Texts of this claim, joined and written short by a program. -/
import Derived.Test.YtaenhebjdjpdgaaGreatDoorP17
import Derived.Test.YtaenhebjdjpdgaaGreatDoorP00
set_option linter.unusedVariables false
set_option linter.unusedSimpArgs false
set_option linter.unusedSectionVars false
set_option maxRecDepth 100000
namespace Go.Abs.b1
open Go Go.Abs Go.Proofs
noncomputable section
variable (g : Nat -> Option Obj)
def Up : List V := [Ql]
def Uq : V := .ba [tA, .c0, aq 0]
theorem ae5 : cu (GI g) 200 (.fn 50 [] []) Up [] = some (Uq, [], 0) := by kernel_rfl
def Ur : List (List V × V) := [(Up, Uq)]
theorem ae6 : iS (GI g) 200 50 Ur := ⟨⟨by kernel_rfl, ae5 g⟩, trivial⟩
def GJ : Nat -> Option ca := over (GI g) 50 (iR Ur)
end
end Go.Abs.b1
