/- Texts of this claim, joined and written short by a program. -/
import Derived.Test.YteocalfeoefeoaaGreatDoorP13
import Derived.Test.YteocalfeoefeoaaGreatDoorP00
set_option linter.unusedVariables false
set_option linter.unusedSimpArgs false
set_option linter.unusedSectionVars false
set_option maxRecDepth 100000
namespace Go.Abs.mN
open Go Go.Abs Go.Proofs
noncomputable section
variable (g:Nat->Option Obj)
def aau:List V:=[uq]
def aav:V:=.aU [wv,.cp,au 0]
theorem ap5:cu (Hk g) 200 (.fn 44 [] []) aau []=some (aav,[],0):=by kernel_rfl
def aaw:List (List V × V):=[(aau,aav)]
theorem ap6:jf (Hk g) 200 44 aaw:=⟨⟨by kernel_rfl,ap5 g⟩,trivial⟩
def Hl:Nat->Option bY:=over (Hk g) 44 (je aaw)
end
end Go.Abs.mN
