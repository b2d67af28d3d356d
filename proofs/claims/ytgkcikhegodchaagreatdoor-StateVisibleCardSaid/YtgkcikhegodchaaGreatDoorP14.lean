/- Texts of this claim, joined and written short by a program. -/
import Derived.Test.YtgkcikhegodchaaGreatDoorP13
import Derived.Test.YtgkcikhegodchaaGreatDoorP00
set_option linter.unusedVariables false
set_option linter.unusedSimpArgs false
set_option linter.unusedSectionVars false
set_option maxRecDepth 100000
namespace Go.Abs.bA
open Go Go.Abs Go.Proofs
noncomputable section
variable (g:Nat->Option Obj)
def aa4:List V:=[x2]
def aa5:V:=.aF [Jw,.cu,aj 0]
theorem ank:bN (Kt g) 200 (.fn 51 [] []) aa4 []=some (aa5,[],0):=by kernel_rfl
def aa6:List (List V × V):=[(aa4,aa5)]
theorem anl:jJ (Kt g) 200 51 aa6:=⟨⟨by kernel_rfl,ank g⟩,trivial⟩
def Ku:Nat->Option cc:=over (Kt g) 51 (jI aa6)
end
end Go.Abs.bA
