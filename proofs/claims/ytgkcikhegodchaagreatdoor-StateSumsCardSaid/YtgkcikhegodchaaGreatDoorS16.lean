/- Texts of this claim, joined and written short by a program. -/
import Derived.Test.YtgkcikhegodchaaGreatDoorS15
import Derived.Test.YtgkcikhegodchaaGreatDoorS00
set_option linter.unusedVariables false
set_option linter.unusedSimpArgs false
set_option linter.unusedSectionVars false
set_option maxRecDepth 100000
namespace Go.Abs.bs
open Go Go.Abs Go.Proofs
noncomputable section
variable (g:Nat->Option Obj)
def YM:List V:=[TH]
def YN:V:=.aU [xp,.bX,ak 0]
theorem ak9:bD (Jc g) 200 (.fn 50 [] []) YM []=some (YN,[],0):=by kernel_rfl
def YO:List (List V × V):=[(YM,YN)]
theorem ala:jz (Jc g) 200 50 YO:=⟨⟨by kernel_rfl,ak9 g⟩,trivial⟩
def Jd:Nat->Option bV:=over (Jc g) 50 (jy YO)
end
end Go.Abs.bs
