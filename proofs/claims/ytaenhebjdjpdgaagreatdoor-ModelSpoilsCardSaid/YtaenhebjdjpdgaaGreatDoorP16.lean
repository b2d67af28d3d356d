/- Texts of this claim, joined and written short by a program. -/
import Derived.Test.YtaenhebjdjpdgaaGreatDoorP15
import Derived.Test.YtaenhebjdjpdgaaGreatDoorP00
set_option linter.unusedVariables false
set_option linter.unusedSimpArgs false
set_option linter.unusedSectionVars false
set_option maxRecDepth 100000
namespace Go.Abs.b1
open Go Go.Abs Go.Proofs
noncomputable section
variable (g : Nat -> Option Obj)
def Uj : List V := [tA]
def Uk : V := .ba [vv, .c0, aq 0]
theorem ae1 : cu (GG g) 200 (.fn 51 [] []) Uj [] = some (Uk, [], 0) := by kernel_rfl
def Ul : List (List V × V) := [(Uj, Uk)]
theorem ae2 : iS (GG g) 200 51 Ul := ⟨⟨by kernel_rfl, ae1 g⟩, trivial⟩
def GH : Nat -> Option ca := over (GG g) 51 (iR Ul)
end
end Go.Abs.b1
