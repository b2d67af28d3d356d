/- Texts of this claim, joined and written short by a program. -/
import Derived.Test.YtoimeckpnnkbpaaGreatDoorP15
import Derived.Test.YtoimeckpnnkbpaaGreatDoorP00
set_option linter.unusedVariables false
set_option linter.unusedSimpArgs false
set_option linter.unusedSectionVars false
set_option maxRecDepth 100000
namespace Go.Abs.hk
open Go Go.Abs Go.Proofs
noncomputable section
variable (g:Nat->Option Obj)
def aBe:List V:=[abC]
def aBf:V:=.aU [abw,.cp,au 0]
theorem aEZ:cu (Hl g) 200 (.fn 38 [] []) aBe []=some (aBf,[],0):=by kernel_rfl
def aBg:List (List V × V):=[(aBe,aBf)]
theorem aE0:jf (Hl g) 200 38 aBg:=⟨⟨by kernel_rfl,aEZ g⟩,trivial⟩
def Hm:Nat->Option bY:=over (Hl g) 38 (je aBg)
end
end Go.Abs.hk
