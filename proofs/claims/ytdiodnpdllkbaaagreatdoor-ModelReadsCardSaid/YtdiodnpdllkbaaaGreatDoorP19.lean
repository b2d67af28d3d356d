/- Texts of this claim, joined and written short by a program. -/
import Derived.Test.YtdiodnpdllkbaaaGreatDoorP18
import Derived.Test.YtdiodnpdllkbaaaGreatDoorP00
set_option linter.unusedVariables false
set_option linter.unusedSimpArgs false
set_option linter.unusedSectionVars false
set_option maxRecDepth 100000
namespace Go.Abs.bw
open Go Go.Abs Go.Proofs
noncomputable section
variable (g:Nat->Option Obj)
def Vu:List V:=[wv]
def Vv:V:=.bool true
theorem ag2:cu (Hn g) 200 (.fn 98 [] []) Vu []=some (Vv,[],0):=by kernel_rfl
def Vw:List (List V × V):=[(Vu,Vv)]
theorem ag3:jf (Hn g) 200 98 Vw:=⟨⟨by kernel_rfl,ag2 g⟩,trivial⟩
def Ho:Nat->Option bY:=over (Hn g) 98 (je Vw)
def Vx:List V:=[wv]
def Vy:V:=.aU [Rp,au 0]
theorem ag4:cu (Ho g) 200 (.fn 43 [] []) Vx []=some (Vy,[],0):=by kernel_rfl
def Vz:List (List V × V):=[(Vx,Vy)]
theorem ag5:jf (Ho g) 200 43 Vz:=⟨⟨by kernel_rfl,ag4 g⟩,trivial⟩
def Dx:Nat->Option bY:=over (Ho g) 43 (je Vz)
def VA:List V:=[wv,F7,Rl]
def VB:V:=.bool false
theorem ag6:cu (Dx g) 200 (.fn 202 [] []) VA []=some (VB,[],0):=by kernel_rfl
def VC:List V:=[wv,F7,Rn]
def VD:V:=.bool true
theorem ag7:cu (Dx g) 200 (.fn 202 [] []) VC []=some (VD,[],0):=by kernel_rfl
def VE:List (List V × V):=[(VA,VB),(VC,VD)]
theorem ag8:jf (Dx g) 200 202 VE:=⟨⟨by kernel_rfl,ag6 g⟩,⟨⟨by kernel_rfl,ag7 g⟩,trivial⟩⟩
def Hp:Nat->Option bY:=over (Dx g) 202 (je VE)
def VF:List V:=[wv,au 0]
def VG:V:=.list 1 [.list 1 [au 1]]
theorem ag9:cu (Hp g) 200 (.fn 48 [] []) VF []=some (VG,[],0):=by kernel_rfl
def VH:List (List V × V):=[(VF,VG)]
theorem aha:jf (Hp g) 200 48 VH:=⟨⟨by kernel_rfl,ag9 g⟩,trivial⟩
def ML:Nat->Option bY:=over (Hp g) 48 (je VH)
end
end Go.Abs.bw
