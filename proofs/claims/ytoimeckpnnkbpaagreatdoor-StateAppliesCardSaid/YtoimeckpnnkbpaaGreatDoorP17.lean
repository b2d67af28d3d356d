/- Texts of this claim, joined and written short by a program. -/
import Derived.Test.YtoimeckpnnkbpaaGreatDoorP16
import Derived.Test.YtoimeckpnnkbpaaGreatDoorP00
set_option linter.unusedVariables false
set_option linter.unusedSimpArgs false
set_option linter.unusedSectionVars false
set_option maxRecDepth 100000
namespace Go.Abs.hk
open Go Go.Abs Go.Proofs
noncomputable section
variable (g:Nat->Option Obj)
def aBh:List V:=[abB]
def aBi:V:=.bool true
theorem aE1:cu (Hm g) 200 (.fn 81 [] []) aBh []=some (aBi,[],0):=by kernel_rfl
def aBj:List (List V × V):=[(aBh,aBi)]
theorem aE2:jf (Hm g) 200 81 aBj:=⟨⟨by kernel_rfl,aE1 g⟩,trivial⟩
def Hn:Nat->Option bY:=over (Hm g) 81 (je aBj)
def aBk:List V:=[abB]
def aBl:V:=.aU [ax9,au 0]
theorem aE3:cu (Hn g) 200 (.fn 40 [] []) aBk []=some (aBl,[],0):=by kernel_rfl
def aBm:List (List V × V):=[(aBk,aBl)]
theorem aE4:jf (Hn g) 200 40 aBm:=⟨⟨by kernel_rfl,aE3 g⟩,trivial⟩
def Ho:Nat->Option bY:=over (Hn g) 40 (je aBm)
end
end Go.Abs.hk
