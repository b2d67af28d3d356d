/- Texts of this claim, joined and written short by a program. -/
import Derived.Test.YtonmjjfciemcoaaGreatDoorP13
import Derived.Test.YtonmjjfciemcoaaGreatDoorP00
set_option linter.unusedVariables false
set_option linter.unusedSimpArgs false
set_option linter.unusedSectionVars false
set_option maxRecDepth 100000
namespace Go.Abs.hk
open Go Go.Abs Go.Proofs
noncomputable section
variable (g:Nat->Option Obj)
def aBJ:List V:=[auT]
def aBK:V:=.bool true
theorem aGK:cu (Dx g) 200 (.fn 99 [] []) aBJ []=some (aBK,[],0):=by kernel_rfl
def aBL:List (List V × V):=[(aBJ,aBK)]
theorem aGL:jf (Dx g) 200 99 aBL:=⟨⟨by kernel_rfl,aGK g⟩,trivial⟩
def Hp:Nat->Option bY:=over (Dx g) 99 (je aBL)
def aBM:List V:=[auT]
def aBN:V:=.aU [azs,au 0]
theorem aGM:cu (Hp g) 200 (.fn 55 [] []) aBM []=some (aBN,[],0):=by kernel_rfl
def aBO:List (List V × V):=[(aBM,aBN)]
theorem aGN:jf (Hp g) 200 55 aBO:=⟨⟨by kernel_rfl,aGM g⟩,trivial⟩
def ML:Nat->Option bY:=over (Hp g) 55 (je aBO)
def aBP:List V:=[auT,Rj,.list 5 [.agg [.str [112],au 0,au 0,au 0,au 0]]]
def aBQ:V:=.bool true
theorem aGO:cu (ML g) 200 (.fn 205 [] []) aBP []=some (aBQ,[],0):=by kernel_rfl
def aBR:List V:=[auT,Rj,.list 5 [.agg [.str [112],au 0,au 0,au 0,au 1]]]
def aBS:V:=.bool true
theorem aGP:cu (ML g) 200 (.fn 205 [] []) aBR []=some (aBS,[],0):=by kernel_rfl
def aBT:List V:=[auT,Cn,.cp]
def aBU:V:=.bool true
theorem aGQ:cu (ML g) 200 (.fn 205 [] []) aBT []=some (aBU,[],0):=by kernel_rfl
def aBV:List (List V × V):=[(aBP,aBQ),(aBR,aBS),(aBT,aBU)]
theorem aGR:jf (ML g) 200 205 aBV:=⟨⟨by kernel_rfl,aGO g⟩,⟨⟨by kernel_rfl,aGP g⟩,⟨⟨by kernel_rfl,aGQ g⟩,trivial⟩⟩⟩
def Hq:Nat->Option bY:=over (ML g) 205 (je aBV)
def aBW:List V:=[auT,au 0]
def aBX:V:=.list 1 [.list 1 [au 0],.list 1 [au 1]]
theorem aGS:cu (Hq g) 200 (.fn 60 [] []) aBW []=some (aBX,[],0):=by kernel_rfl
def aBY:List V:=[auT,au 1]
def aBZ:V:=.list 1 [.cp]
theorem aGT:cu (Hq g) 200 (.fn 60 [] []) aBY []=some (aBZ,[],0):=by kernel_rfl
def aB0:List (List V × V):=[(aBW,aBX),(aBY,aBZ)]
theorem aGU:jf (Hq g) 200 60 aB0:=⟨⟨by kernel_rfl,aGS g⟩,⟨⟨by kernel_rfl,aGT g⟩,trivial⟩⟩
def Hr:Nat->Option bY:=over (Hq g) 60 (je aB0)
theorem ahb:azE.jf (cu (Hr g) 200) 200 Tryz.f61.ntmps Rs:=⟨⟨by kernel_rfl,by kernel_rfl,by kernel_rfl⟩,⟨⟨by kernel_rfl,by kernel_rfl,by kernel_rfl⟩,⟨⟨by kernel_rfl,by kernel_rfl,by kernel_rfl⟩,trivial⟩⟩⟩
def Hs:Nat->Option bY:=over (Hr g) 61 (je Rs)
def aB1:List V:=[.list 1 [au 2],Rq]
def aB2:V:=.bool true
theorem aGV:cu (Hs g) 200 (.fn 122 [] []) aB1 []=some (aB2,[],0):=by kernel_rfl
def aB3:List (List V × V):=[(aB1,aB2)]
theorem aGW:jf (Hs g) 200 122 aB3:=⟨⟨by kernel_rfl,aGV g⟩,trivial⟩
def MM:Nat->Option bY:=over (Hs g) 122 (je aB3)
def aB4:List V:=[auT]
def aB5:V:=.aU [Nj,au 0]
theorem aGX:cu (MM g) 200 (.fn 34 [] []) aB4 []=some (aB5,[],0):=by kernel_rfl
def aB6:List (List V × V):=[(aB4,aB5)]
theorem aGY:jf (MM g) 200 34 aB6:=⟨⟨by kernel_rfl,aGX g⟩,trivial⟩
def axj:Nat->Option bY:=over (MM g) 34 (je aB6)
def aB7:List V:=[Nj]
def aB8:V:=.bool true
theorem aGZ:cu (axj g) 200 (.fn 63 [] []) aB7 []=some (aB8,[],0):=by kernel_rfl
def aB9:List (List V × V):=[(aB7,aB8)]
theorem aG0:jf (axj g) 200 63 aB9:=⟨⟨by kernel_rfl,aGZ g⟩,trivial⟩
def zw:Nat->Option bY:=over (axj g) 63 (je aB9)
end
end Go.Abs.hk
