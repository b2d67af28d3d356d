/- Texts of this claim, joined and written short by a program. -/
import Derived.Test.YtgkcikhegodchaaGreatDoorS16
import Derived.Test.YtgkcikhegodchaaGreatDoorS00
set_option linter.unusedVariables false
set_option linter.unusedSimpArgs false
set_option linter.unusedSectionVars false
set_option maxRecDepth 100000
namespace Go.Abs.bs
open Go Go.Abs Go.Proofs
noncomputable section
variable (g:Nat->Option Obj)
def YP:List V:=[H9]
def YQ:V:=.bool true
theorem alb:bD (Jd g) 200 (.fn 111 [] []) YP []=some (YQ,[],0):=by kernel_rfl
def YR:List (List V × V):=[(YP,YQ)]
theorem alc:jz (Jd g) 200 111 YR:=⟨⟨by kernel_rfl,alb g⟩,trivial⟩
def Je:Nat->Option bV:=over (Jd g) 111 (jy YR)
def YS:List V:=[H9]
def YT:V:=.aU [TL,ak 0]
theorem ald:bD (Je g) 200 (.fn 52 [] []) YS []=some (YT,[],0):=by kernel_rfl
def YU:List (List V × V):=[(YS,YT)]
theorem ale:jz (Je g) 200 52 YU:=⟨⟨by kernel_rfl,ald g⟩,trivial⟩
def Jf:Nat->Option bV:=over (Je g) 52 (jy YU)
end
end Go.Abs.bs
