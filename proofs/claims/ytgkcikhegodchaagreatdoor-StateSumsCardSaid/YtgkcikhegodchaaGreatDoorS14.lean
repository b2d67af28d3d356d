/- Texts of this claim, joined and written short by a program. -/
import Derived.Test.YtgkcikhegodchaaGreatDoorS13
import Derived.Test.YtgkcikhegodchaaGreatDoorS00
set_option linter.unusedVariables false
set_option linter.unusedSimpArgs false
set_option linter.unusedSectionVars false
set_option maxRecDepth 100000
namespace Go.Abs.bs
open Go Go.Abs Go.Proofs
noncomputable section
variable (g:Nat->Option Obj)
def YG:List V:=[xp]
def YH:V:=.aU [H9,.bX,ak 0]
theorem ak5:bD (Ja g) 200 (.fn 51 [] []) YG []=some (YH,[],0):=by kernel_rfl
def YI:List (List V × V):=[(YG,YH)]
theorem ak6:jz (Ja g) 200 51 YI:=⟨⟨by kernel_rfl,ak5 g⟩,trivial⟩
def Jb:Nat->Option bV:=over (Ja g) 51 (jy YI)
end
end Go.Abs.bs
