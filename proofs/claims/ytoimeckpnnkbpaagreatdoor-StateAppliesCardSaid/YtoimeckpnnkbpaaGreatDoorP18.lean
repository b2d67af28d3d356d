/- Texts of this claim, joined and written short by a program. -/
import Derived.Test.YtoimeckpnnkbpaaGreatDoorP17
import Derived.Test.YtoimeckpnnkbpaaGreatDoorP00
set_option linter.unusedVariables false
set_option linter.unusedSimpArgs false
set_option linter.unusedSectionVars false
set_option maxRecDepth 100000
namespace Go.Abs.hk
open Go Go.Abs Go.Proofs
noncomputable section
variable (g:Nat->Option Obj)
def aBn:List V:=[.list 1 [au 2],Ro]
def aBo:V:=.bool true
theorem aE5:cu (Ho g) 200 (.fn 107 [] []) aBn []=some (aBo,[],0):=by kernel_rfl
def aBp:List (List V × V):=[(aBn,aBo)]
theorem aE6:jf (Ho g) 200 107 aBp:=⟨⟨by kernel_rfl,aE5 g⟩,trivial⟩
def Dx:Nat->Option bY:=over (Ho g) 107 (je aBp)
def aBq:List V:=[abB]
def aBr:V:=.aU [auK,au 0]
theorem aE7:cu (Dx g) 200 (.fn 21 [] []) aBq []=some (aBr,[],0):=by kernel_rfl
def m21:List (List V × V):=[(aBq,aBr)]
theorem aE8:jf (Dx g) 200 21 m21:=⟨⟨by kernel_rfl,aE7 g⟩,trivial⟩
def Hp:Nat->Option bY:=over (Dx g) 21 (je m21)
def aaI:List V:=[auK]
def aaJ:V:=.bool true
theorem aqe:cu (Hp g) 200 (.fn 52 [] []) aaI []=some (aaJ,[],0):=by kernel_rfl
def aaK:List (List V × V):=[(aaI,aaJ)]
theorem aqf:jf (Hp g) 200 52 aaK:=⟨⟨by kernel_rfl,aqe g⟩,trivial⟩
def ML:Nat->Option bY:=over (Hp g) 52 (je aaK)
def aBs:List V:=[aya]
def aBt:V:=.list 1 [.str [99],.str [40],.str [41],.str [61],.str [50],.str [59],.str [114],.str [40],.str [48],.str [41],.str [61],.str [49],.str [59]]
theorem aE9:cu (ML g) 200 (.fn 54 [] []) aBs []=some (aBt,[],0):=by kernel_rfl
def aBu:List (List V × V):=[(aBs,aBt)]
theorem aFa:jf (ML g) 200 54 aBu:=⟨⟨by kernel_rfl,aE9 g⟩,trivial⟩
def Hq:Nat->Option bY:=over (ML g) 54 (je aBu)
end
end Go.Abs.hk
