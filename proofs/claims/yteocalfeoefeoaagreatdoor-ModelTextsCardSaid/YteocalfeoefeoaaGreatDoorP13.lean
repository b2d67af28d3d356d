/- Texts of this claim, joined and written short by a program. -/
import Derived.Test.YteocalfeoefeoaaGreatDoorP12
import Derived.Test.YteocalfeoefeoaaGreatDoorP00
set_option linter.unusedVariables false
set_option linter.unusedSimpArgs false
set_option linter.unusedSectionVars false
set_option maxRecDepth 100000
namespace Go.Abs.mN
open Go Go.Abs Go.Proofs
noncomputable section
variable (g:Nat->Option Obj)
def VD:List V:=[F6,Rl,KA]
def VE:V:=Rm
theorem an8:cu (Dw g) 200 (.fn 403 [] []) VD []=some (VE,[],0):=by kernel_rfl
def VF:List V:=[F6,Rn,KA]
def VG:V:=Rm
theorem an9:cu (Dw g) 200 (.fn 403 [] []) VF []=some (VG,[],0):=by kernel_rfl
def VH:List (List V × V):=[(VD,VE),(VF,VG)]
theorem aoU:jf (Dw g) 200 403 VH:=⟨⟨by kernel_rfl,an8 g⟩,⟨⟨by kernel_rfl,an9 g⟩,trivial⟩⟩
def Hj:Nat->Option bY:=over (Dw g) 403 (je VH)
def VI:List V:=[uq,.cp,uq]
def VJ:V:=.aU [uq,au 0]
theorem aoV:cu (Hj g) 200 (.fn 209 [] []) VI []=some (VJ,[],0):=by kernel_rfl
def VK:List (List V × V):=[(VI,VJ)]
theorem aoW:jf (Hj g) 200 209 VK:=⟨⟨by kernel_rfl,aoV g⟩,trivial⟩
def kb:Nat->Option bY:=over (Hj g) 209 (je VK)
def VL:List V:=[Q2]
def VM:V:=au 1
theorem aoZ:cu (kb g) 200 (.fn 86 [] []) VL []=some (VM,[],0):=by kernel_rfl
def VN:List V:=[Q3]
def Wf:V:=au 2
theorem apu:cu (kb g) 200 (.fn 86 [] []) VN []=some (Wf,[],0):=by kernel_rfl
def WA:List V:=[Q4]
def WB:V:=au 1
theorem apv:cu (kb g) 200 (.fn 86 [] []) WA []=some (WB,[],0):=by kernel_rfl
def WC:List V:=[Q5]
def WD:V:=au 2
theorem apx:cu (kb g) 200 (.fn 86 [] []) WC []=some (WD,[],0):=by kernel_rfl
def WJ:List V:=[Q6]
def Ye:V:=au 3
theorem apI:cu (kb g) 200 (.fn 86 [] []) WJ []=some (Ye,[],0):=by kernel_rfl
def Yf:List V:=[Q7]
def Yg:V:=au 4
theorem apP:cu (kb g) 200 (.fn 86 [] []) Yf []=some (Yg,[],0):=by kernel_rfl
def Yh:List V:=[Q8]
def Yi:V:=au 1
theorem apQ:cu (kb g) 200 (.fn 86 [] []) Yh []=some (Yi,[],0):=by kernel_rfl
def Zt:List V:=[Q9]
def ZL:V:=au 2
theorem apR:cu (kb g) 200 (.fn 86 [] []) Zt []=some (ZL,[],0):=by kernel_rfl
def ZM:List V:=[Ra]
def ZN:V:=au 3
theorem apS:cu (kb g) 200 (.fn 86 [] []) ZM []=some (ZN,[],0):=by kernel_rfl
def ZO:List V:=[Rb]
def Z8:V:=au 1
theorem apT:cu (kb g) 200 (.fn 86 [] []) ZO []=some (Z8,[],0):=by kernel_rfl
def Z9:List V:=[Rc]
def aaa:V:=au 1
theorem apU:cu (kb g) 200 (.fn 86 [] []) Z9 []=some (aaa,[],0):=by kernel_rfl
def aab:List V:=[Rd]
def aac:V:=au 1
theorem apV:cu (kb g) 200 (.fn 86 [] []) aab []=some (aac,[],0):=by kernel_rfl
def aad:List V:=[F6]
def aae:V:=au 2
theorem apW:cu (kb g) 200 (.fn 86 [] []) aad []=some (aae,[],0):=by kernel_rfl
def aaf:List V:=[Rf]
def aag:V:=au 3
theorem apX:cu (kb g) 200 (.fn 86 [] []) aaf []=some (aag,[],0):=by kernel_rfl
def aah:List V:=[Rg]
def aai:V:=au 1
theorem apY:cu (kb g) 200 (.fn 86 [] []) aah []=some (aai,[],0):=by kernel_rfl
def aaj:List V:=[Rh]
def aak:V:=au 2
theorem apZ:cu (kb g) 200 (.fn 86 [] []) aaj []=some (aak,[],0):=by kernel_rfl
def aal:List V:=[Ri]
def aam:V:=au 3
theorem ap0:cu (kb g) 200 (.fn 86 [] []) aal []=some (aam,[],0):=by kernel_rfl
def aan:List V:=[F7]
def aao:V:=au 4
theorem ap1:cu (kb g) 200 (.fn 86 [] []) aan []=some (aao,[],0):=by kernel_rfl
def aap:List V:=[Rj]
def aaq:V:=au 5
theorem ap2:cu (kb g) 200 (.fn 86 [] []) aap []=some (aaq,[],0):=by kernel_rfl
def aar:List V:=[uq]
def aas:V:=au 6
theorem ap3:cu (kb g) 200 (.fn 86 [] []) aar []=some (aas,[],0):=by kernel_rfl
def aat:List (List V × V):=[(VL,VM),(VN,Wf),(WA,WB),(WC,WD),(WJ,Ye),(Yf,Yg),(Yh,Yi),(Zt,ZL),(ZM,ZN),(ZO,Z8),(Z9,aaa),(aab,aac),(aad,aae),(aaf,aag),(aah,aai),(aaj,aak),(aal,aam),(aan,aao),(aap,aaq),(aar,aas)]
theorem ap4:jf (kb g) 200 86 aat:=⟨⟨by kernel_rfl,aoZ g⟩,⟨⟨by kernel_rfl,apu g⟩,⟨⟨by kernel_rfl,apv g⟩,⟨⟨by kernel_rfl,apx g⟩,⟨⟨by kernel_rfl,apI g⟩,⟨⟨by kernel_rfl,apP g⟩,⟨⟨by kernel_rfl,apQ g⟩,⟨⟨by kernel_rfl,apR g⟩,⟨⟨by kernel_rfl,apS g⟩,⟨⟨by kernel_rfl,apT g⟩,⟨⟨by kernel_rfl,apU g⟩,⟨⟨by kernel_rfl,apV g⟩,⟨⟨by kernel_rfl,apW g⟩,⟨⟨by kernel_rfl,apX g⟩,⟨⟨by kernel_rfl,apY g⟩,⟨⟨by kernel_rfl,apZ g⟩,⟨⟨by kernel_rfl,ap0 g⟩,⟨⟨by kernel_rfl,ap1 g⟩,⟨⟨by kernel_rfl,ap2 g⟩,⟨⟨by kernel_rfl,ap3 g⟩,trivial⟩⟩⟩⟩⟩⟩⟩⟩⟩⟩⟩⟩⟩⟩⟩⟩⟩⟩⟩⟩
def Hk:Nat->Option bY:=over (kb g) 86 (je aat)
end
end Go.Abs.mN
