/- Texts of this claim, joined and written short by a program. -/
import Derived.Test.YtdoflpjbdlgciaaGreatDoorP15
import Derived.Test.YtdoflpjbdlgciaaGreatDoorP00
set_option linter.unusedVariables false
set_option linter.unusedSimpArgs false
set_option linter.unusedSectionVars false
set_option maxRecDepth 100000
namespace Go.Abs.bZ
open Go Go.Abs Go.Proofs
noncomputable section
variable (g:Nat->Option Obj)
def Zs:List V:=[rv]
def Zt:V:=.bool true
theorem amu:bm (JZ g) 200 (.fn 78 [] []) Zs []=some (Zt,[],0):=by kernel_rfl
def Zu:List (List V × V):=[(Zs,Zt)]
theorem amv:hq (JZ g) 200 78 Zu:=⟨⟨by kernel_rfl,amu g⟩,trivial⟩
def J0:Nat->Option cb:=over (JZ g) 78 (hk Zu)
def Zv:List V:=[rv]
def Zw:V:=.bd [UC,J 0]
theorem amw:bm (J0 g) 200 (.fn 29 [] []) Zv []=some (Zw,[],0):=by kernel_rfl
def Zx:List (List V × V):=[(Zv,Zw)]
theorem amx:hq (J0 g) 200 29 Zx:=⟨⟨by kernel_rfl,amw g⟩,trivial⟩
def Cl:Nat->Option cb:=over (J0 g) 29 (hk Zx)
def Zy:List V:=[rv,Iv,.list 5 [.agg [.str [112],J 0,J 0,J 0,J 0]]]
def Zz:V:=.bool true
theorem amy:bm (Cl g) 200 (.fn 208 [] []) Zy []=some (Zz,[],0):=by kernel_rfl
def ZA:List V:=[rv,Iv,.list 5 [.agg [.str [112],J 0,J 0,J 0,J 1]]]
def ZB:V:=.bool true
theorem amz:bm (Cl g) 200 (.fn 208 [] []) ZA []=some (ZB,[],0):=by kernel_rfl
def ZC:List V:=[rv,Nw,.aY]
def ZD:V:=.bool true
theorem amA:bm (Cl g) 200 (.fn 208 [] []) ZC []=some (ZD,[],0):=by kernel_rfl
def ZE:List (List V × V):=[(Zy,Zz),(ZA,ZB),(ZC,ZD)]
theorem amB:hq (Cl g) 200 208 ZE:=⟨⟨by kernel_rfl,amy g⟩,⟨⟨by kernel_rfl,amz g⟩,⟨⟨by kernel_rfl,amA g⟩,trivial⟩⟩⟩
def Fj:Nat->Option cb:=over (Cl g) 208 (hk ZE)
def ZF:List V:=[rv,J 0]
def ZG:V:=.list 1 [.list 1 [J 0],.list 1 [J 1]]
theorem amC:bm (Fj g) 200 (.fn 34 [] []) ZF []=some (ZG,[],0):=by kernel_rfl
def ZH:List V:=[rv,J 1]
def ZI:V:=.list 1 [.aY]
theorem amD:bm (Fj g) 200 (.fn 34 [] []) ZH []=some (ZI,[],0):=by kernel_rfl
def ZJ:List (List V × V):=[(ZF,ZG),(ZH,ZI)]
theorem amE:hq (Fj g) 200 34 ZJ:=⟨⟨by kernel_rfl,amC g⟩,⟨⟨by kernel_rfl,amD g⟩,trivial⟩⟩
def PX:Nat->Option cb:=over (Fj g) 34 (hk ZJ)
theorem amF:Xj.hq (bm (PX g) 200) 200 Tryz.f35.ntmps UK:=⟨⟨by kernel_rfl,by kernel_rfl,by kernel_rfl⟩,⟨⟨by kernel_rfl,by kernel_rfl,by kernel_rfl⟩,⟨⟨by kernel_rfl,by kernel_rfl,by kernel_rfl⟩,trivial⟩⟩⟩
def J1:Nat->Option cb:=over (PX g) 35 (hk UK)
def ZK:List V:=[.list 1 [J 2],Nx]
def ZL:V:=.bool true
theorem amG:bm (J1 g) 200 (.fn 44 [] []) ZK []=some (ZL,[],0):=by kernel_rfl
def ZM:List (List V × V):=[(ZK,ZL)]
theorem amH:hq (J1 g) 200 44 ZM:=⟨⟨by kernel_rfl,amG g⟩,trivial⟩
def J2:Nat->Option cb:=over (J1 g) 44 (hk ZM)
def ZN:List V:=[rv]
def ZO:V:=.bd [mZ,J 0]
theorem amI:bm (J2 g) 200 (.fn 10 [] []) ZN []=some (ZO,[],0):=by kernel_rfl
def m10:List (List V × V):=[(ZN,ZO)]
theorem amJ:hq (J2 g) 200 10 m10:=⟨⟨by kernel_rfl,amI g⟩,trivial⟩
def J3:Nat->Option cb:=over (J2 g) 10 (hk m10)
def ZP:List V:=[mZ]
def ZQ:V:=.bool true
theorem amK:bm (J3 g) 200 (.fn 19 [] []) ZP []=some (ZQ,[],0):=by kernel_rfl
def m19:List (List V × V):=[(ZP,ZQ)]
theorem amL:hq (J3 g) 200 19 m19:=⟨⟨by kernel_rfl,amK g⟩,trivial⟩
def hO:Nat->Option cb:=over (J3 g) 19 (hk m19)
end
end Go.Abs.bZ
