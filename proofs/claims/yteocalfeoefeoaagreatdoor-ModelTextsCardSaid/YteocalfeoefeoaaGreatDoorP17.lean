/- Texts of this claim, joined and written short by a program. -/
import Derived.Test.YteocalfeoefeoaaGreatDoorP16
import Derived.Test.YteocalfeoefeoaaGreatDoorP00
set_option linter.unusedVariables false
set_option linter.unusedSimpArgs false
set_option linter.unusedSectionVars false
set_option maxRecDepth 100000
namespace Go.Abs.mN
open Go Go.Abs Go.Proofs
noncomputable section
variable (g:Nat->Option Obj)
def az2:List V:=[wv]
def az3:V:=.bool true
theorem aFH:cu (Hn g) 200 (.fn 91 [] []) az2 []=some (az3,[],0):=by kernel_rfl
def az4:List (List V × V):=[(az2,az3)]
theorem aFI:jf (Hn g) 200 91 az4:=⟨⟨by kernel_rfl,aFH g⟩,trivial⟩
def Ho:Nat->Option bY:=over (Hn g) 91 (je az4)
def aDb:List V:=[wv]
def aDc:V:=.aU [Rp,au 0]
theorem aHy:cu (Ho g) 200 (.fn 45 [] []) aDb []=some (aDc,[],0):=by kernel_rfl
def aDt:List (List V × V):=[(aDb,aDc)]
theorem aHH:jf (Ho g) 200 45 aDt:=⟨⟨by kernel_rfl,aHy g⟩,trivial⟩
def Dx:Nat->Option bY:=over (Ho g) 45 (je aDt)
def aaD:List V:=[wv,F7,Rl]
def aaE:V:=.bool false
theorem aqb:cu (Dx g) 200 (.fn 224 [] []) aaD []=some (aaE,[],0):=by kernel_rfl
def aaF:List V:=[wv,F7,Rn]
def aaG:V:=.bool true
theorem aqc:cu (Dx g) 200 (.fn 224 [] []) aaF []=some (aaG,[],0):=by kernel_rfl
def aaH:List (List V × V):=[(aaD,aaE),(aaF,aaG)]
theorem aqd:jf (Dx g) 200 224 aaH:=⟨⟨by kernel_rfl,aqb g⟩,⟨⟨by kernel_rfl,aqc g⟩,trivial⟩⟩
def Hp:Nat->Option bY:=over (Dx g) 224 (je aaH)
def aCa:List V:=[wv,au 0]
def aCb:V:=.list 1 [.list 1 [au 1]]
theorem aG1:cu (Hp g) 200 (.fn 50 [] []) aCa []=some (aCb,[],0):=by kernel_rfl
def aC6:List (List V × V):=[(aCa,aCb)]
theorem aHu:jf (Hp g) 200 50 aC6:=⟨⟨by kernel_rfl,aG1 g⟩,trivial⟩
def ML:Nat->Option bY:=over (Hp g) 50 (je aC6)
end
end Go.Abs.mN
