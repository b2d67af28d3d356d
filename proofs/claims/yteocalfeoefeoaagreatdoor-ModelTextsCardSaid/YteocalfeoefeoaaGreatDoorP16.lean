/- Texts of this claim, joined and written short by a program. -/
import Derived.Test.YteocalfeoefeoaaGreatDoorP15
import Derived.Test.YteocalfeoefeoaaGreatDoorP00
set_option linter.unusedVariables false
set_option linter.unusedSimpArgs false
set_option linter.unusedSectionVars false
set_option maxRecDepth 100000
namespace Go.Abs.mN
open Go Go.Abs Go.Proofs
noncomputable section
variable (g:Nat->Option Obj)
def aaA:List V:=[Ro]
def aaB:V:=.aU [uq,.cp,au 0]
theorem ap9:cu (Hm g) 200 (.fn 43 [] []) aaA []=some (aaB,[],0):=by kernel_rfl
def aaC:List (List V × V):=[(aaA,aaB)]
theorem aqa:jf (Hm g) 200 43 aaC:=⟨⟨by kernel_rfl,ap9 g⟩,trivial⟩
def Hn:Nat->Option bY:=over (Hm g) 43 (je aaC)
end
end Go.Abs.mN
