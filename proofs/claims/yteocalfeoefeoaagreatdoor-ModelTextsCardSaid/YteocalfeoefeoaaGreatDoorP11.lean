/- Texts of this claim, joined and written short by a program. -/
import Derived.Test.YteocalfeoefeoaaGreatDoorP10
import Derived.Test.YteocalfeoefeoaaGreatDoorP00
set_option linter.unusedVariables false
set_option linter.unusedSimpArgs false
set_option linter.unusedSectionVars false
set_option maxRecDepth 100000
namespace Go.Abs.mN
open Go Go.Abs Go.Proofs
noncomputable section
variable (g:Nat->Option Obj)
def Vf:List V:=[.str [50]]
def Vg:V:=au 3
theorem ajw:cu (sa g) 200 (.fn 24 [] []) Vf []=some (Vg,[],0):=by kernel_rfl
def Vh:List V:=[.str [48]]
def Vi:V:=au 3
theorem aks:cu (sa g) 200 (.fn 24 [] []) Vh []=some (Vi,[],0):=by kernel_rfl
def Vj:List V:=[.str [115]]
def Vk:V:=au 1
theorem aku:cu (sa g) 200 (.fn 24 [] []) Vj []=some (Vk,[],0):=by kernel_rfl
def Vl:List V:=[.str [114]]
def Vm:V:=au 1
theorem akv:cu (sa g) 200 (.fn 24 [] []) Vl []=some (Vm,[],0):=by kernel_rfl
def Vn:List V:=[.str [97]]
def Vo:V:=au 1
theorem akw:cu (sa g) 200 (.fn 24 [] []) Vn []=some (Vo,[],0):=by kernel_rfl
def Vp:List V:=[.str [111]]
def Vq:V:=au 1
theorem akK:cu (sa g) 200 (.fn 24 [] []) Vp []=some (Vq,[],0):=by kernel_rfl
def Vr:List V:=[.str [112]]
def Vs:V:=au 1
theorem akL:cu (sa g) 200 (.fn 24 [] []) Vr []=some (Vs,[],0):=by kernel_rfl
def Vt:List V:=[.str [49]]
def Vu:V:=au 3
theorem akM:cu (sa g) 200 (.fn 24 [] []) Vt []=some (Vu,[],0):=by kernel_rfl
def m24:List (List V × V):=[(Vf,Vg),(Vh,Vi),(Vj,Vk),(Vl,Vm),(Vn,Vo),(Vp,Vq),(Vr,Vs),(Vt,Vu)]
theorem akN:jf (sa g) 200 24 m24:=⟨⟨by kernel_rfl,ajw g⟩,⟨⟨by kernel_rfl,aks g⟩,⟨⟨by kernel_rfl,aku g⟩,⟨⟨by kernel_rfl,akv g⟩,⟨⟨by kernel_rfl,akw g⟩,⟨⟨by kernel_rfl,akK g⟩,⟨⟨by kernel_rfl,akL g⟩,⟨⟨by kernel_rfl,akM g⟩,trivial⟩⟩⟩⟩⟩⟩⟩⟩
def Hg:Nat->Option bY:=over (sa g) 24 (je m24)
def Vv:List V:=[uq]
def Vw:V:=.bool true
theorem anD:cu (Hg g) 200 (.fn 83 [] []) Vv []=some (Vw,[],0):=by kernel_rfl
def It:List (List V × V):=[(Vv,Vw)]
theorem anE:jf (Hg g) 200 83 It:=⟨⟨by kernel_rfl,anD g⟩,trivial⟩
def Hh:Nat->Option bY:=over (Hg g) 83 (je It)
end
end Go.Abs.mN
