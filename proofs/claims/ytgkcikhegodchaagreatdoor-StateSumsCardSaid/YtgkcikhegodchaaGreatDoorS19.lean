/- Texts of this claim, joined and written short by a program. -/
import Derived.Test.YtgkcikhegodchaaGreatDoorS18
import Derived.Test.YtgkcikhegodchaaGreatDoorS00
set_option linter.unusedVariables false
set_option linter.unusedSimpArgs false
set_option linter.unusedSectionVars false
set_option maxRecDepth 100000
namespace Go.Abs.bs
open Go Go.Abs Go.Proofs
noncomputable section
variable (g:Nat->Option Obj)
def Y5:List V:=[MF,vd]
def Y6:V:=.bool true
theorem alo:bD (n1 g) 200 (.fn 48 [] []) Y5 []=some (Y6,[],0):=by kernel_rfl
def Y7:List V:=[MH,vd]
def Y8:V:=.bool true
theorem alp:bD (n1 g) 200 (.fn 48 [] []) Y7 []=some (Y8,[],0):=by kernel_rfl
def Y9:List V:=[MJ,vd]
def Za:V:=.bool true
theorem alq:bD (n1 g) 200 (.fn 48 [] []) Y9 []=some (Za,[],0):=by kernel_rfl
def Zb:List V:=[ML,vd]
def Zc:V:=.bool true
theorem alr:bD (n1 g) 200 (.fn 48 [] []) Zb []=some (Zc,[],0):=by kernel_rfl
def Zd:List V:=[MN,vd]
def Ze:V:=.bool true
theorem als:bD (n1 g) 200 (.fn 48 [] []) Zd []=some (Ze,[],0):=by kernel_rfl
def Zf:List V:=[MP,vd]
def Zg:V:=.bool true
theorem alu:bD (n1 g) 200 (.fn 48 [] []) Zf []=some (Zg,[],0):=by kernel_rfl
def Zh:List V:=[MR,vd]
def Zi:V:=.bool false
theorem alv:bD (n1 g) 200 (.fn 48 [] []) Zh []=some (Zi,[],0):=by kernel_rfl
def Zj:List V:=[MF,xq]
def Zk:V:=.bool true
theorem alw:bD (n1 g) 200 (.fn 48 [] []) Zj []=some (Zk,[],0):=by kernel_rfl
def Zl:List V:=[MH,xq]
def Zm:V:=.bool true
theorem alx:bD (n1 g) 200 (.fn 48 [] []) Zl []=some (Zm,[],0):=by kernel_rfl
def Zn:List V:=[MJ,xq]
def Zo:V:=.bool true
theorem aly:bD (n1 g) 200 (.fn 48 [] []) Zn []=some (Zo,[],0):=by kernel_rfl
def Zp:List V:=[ML,xq]
def Zq:V:=.bool true
theorem alz:bD (n1 g) 200 (.fn 48 [] []) Zp []=some (Zq,[],0):=by kernel_rfl
def Zr:List V:=[MN,xq]
def Zs:V:=.bool true
theorem alA:bD (n1 g) 200 (.fn 48 [] []) Zr []=some (Zs,[],0):=by kernel_rfl
def Zt:List V:=[MP,xq]
def Zu:V:=.bool true
theorem alB:bD (n1 g) 200 (.fn 48 [] []) Zt []=some (Zu,[],0):=by kernel_rfl
def Zv:List V:=[MR,xq]
def Zw:V:=.bool true
theorem alC:bD (n1 g) 200 (.fn 48 [] []) Zv []=some (Zw,[],0):=by kernel_rfl
def Zx:List (List V × V):=[(Y5,Y6),(Y7,Y8),(Y9,Za),(Zb,Zc),(Zd,Ze),(Zf,Zg),(Zh,Zi),(Zj,Zk),(Zl,Zm),(Zn,Zo),(Zp,Zq),(Zr,Zs),(Zt,Zu),(Zv,Zw)]
theorem alD:jz (n1 g) 200 48 Zx:=⟨⟨by kernel_rfl,alo g⟩,⟨⟨by kernel_rfl,alp g⟩,⟨⟨by kernel_rfl,alq g⟩,⟨⟨by kernel_rfl,alr g⟩,⟨⟨by kernel_rfl,als g⟩,⟨⟨by kernel_rfl,alu g⟩,⟨⟨by kernel_rfl,alv g⟩,⟨⟨by kernel_rfl,alw g⟩,⟨⟨by kernel_rfl,alx g⟩,⟨⟨by kernel_rfl,aly g⟩,⟨⟨by kernel_rfl,alz g⟩,⟨⟨by kernel_rfl,alA g⟩,⟨⟨by kernel_rfl,alB g⟩,⟨⟨by kernel_rfl,alC g⟩,trivial⟩⟩⟩⟩⟩⟩⟩⟩⟩⟩⟩⟩⟩⟩
def Jj:Nat->Option bV:=over (n1 g) 48 (jy Zx)
def Zy:List V:=[Bu,vd]
def Zz:V:=.list 1 [ak 6]
theorem alE:bD (Jj g) 200 (.fn 20 [] []) Zy []=some (Zz,[],0):=by kernel_rfl
def m20:List (List V × V):=[(Zy,Zz)]
theorem alF:jz (Jj g) 200 20 m20:=⟨⟨by kernel_rfl,alE g⟩,trivial⟩
def E6:Nat->Option bV:=over (Jj g) 20 (jy m20)
def ZA:List V:=[Bu,vd]
def ZB:V:=.bool false
theorem alG:bD (E6 g) 200 (.fn 28 [] []) ZA []=some (ZB,[],0):=by kernel_rfl
def ZC:List V:=[Bu,xq]
def ZD:V:=.bool true
theorem alH:bD (E6 g) 200 (.fn 28 [] []) ZC []=some (ZD,[],0):=by kernel_rfl
def ZE:List (List V × V):=[(ZA,ZB),(ZC,ZD)]
theorem alI:jz (E6 g) 200 28 ZE:=⟨⟨by kernel_rfl,alG g⟩,⟨⟨by kernel_rfl,alH g⟩,trivial⟩⟩
def Jk:Nat->Option bV:=over (E6 g) 28 (jy ZE)
def ZF:List V:=[Bu,TM]
def ZG:V:=.aU [.list 1 [ak 1,ak 0,ak 2],ak 0]
theorem alJ:bD (Jk g) 200 (.fn 26 [] []) ZF []=some (ZG,[],0):=by kernel_rfl
def ZH:List (List V × V):=[(ZF,ZG)]
theorem alK:jz (Jk g) 200 26 ZH:=⟨⟨by kernel_rfl,alJ g⟩,trivial⟩
def O7:Nat->Option bV:=over (Jk g) 26 (jy ZH)
theorem alL:bD (O7 g) 200 (.fn 6 [] []) [] []=some (.bool true,[],0):=by kernel_rfl
end
end Go.Abs.bs
