/- Texts of this claim, joined and written short by a program. -/
import Derived.Test.YteocalfeoefeoaaGreatDoorP11
import Derived.Test.YteocalfeoefeoaaGreatDoorP00
set_option linter.unusedVariables false
set_option linter.unusedSimpArgs false
set_option linter.unusedSectionVars false
set_option maxRecDepth 100000
namespace Go.Abs.mN
open Go Go.Abs Go.Proofs
noncomputable section
variable (g:Nat->Option Obj)
def Vx:List V:=[uq]
def Vy:V:=.aU [.agg [.list 4 [.agg [au 0,.str [115],au 1,au (-1)],.agg [au 1,.str [114],au 3,au (-1)],.agg [au 4,.str [97],au 5,au 3],.agg [au 3,.str [111],au 7,au (-1)],.agg [au 6,.str [112],au 9,au 7]],.list 1 [au (-1),au 0,au (-1),au 1,au (-1),au 2,au 0,au 3,au (-1),au 4,au 0,au (-1),au (-1),au (-1),au (-1),au 4,au (-1),au (-1),au 1,au 4]],.cp,au 0]
theorem anF:cu (Hh g) 200 (.fn 87 [] []) Vx []=some (Vy,[],0):=by kernel_rfl
def Vz:List (List V × V):=[(Vx,Vy)]
theorem anG:jf (Hh g) 200 87 Vz:=⟨⟨by kernel_rfl,anF g⟩,trivial⟩
def Hi:Nat->Option bY:=over (Hh g) 87 (je Vz)
def VA:List V:=[uq,au 14]
def VB:V:=.list 1 [au 4]
theorem anY:cu (Hi g) 200 (.fn 314 [] []) VA []=some (VB,[],0):=by kernel_rfl
def VC:List (List V × V):=[(VA,VB)]
theorem an7:jf (Hi g) 200 314 VC:=⟨⟨by kernel_rfl,anY g⟩,trivial⟩
def Dw:Nat->Option bY:=over (Hi g) 314 (je VC)
end
end Go.Abs.mN
