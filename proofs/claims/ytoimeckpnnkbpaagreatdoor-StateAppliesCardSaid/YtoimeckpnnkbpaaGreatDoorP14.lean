/- Texts of this claim, joined and written short by a program. -/
import Derived.Test.YtoimeckpnnkbpaaGreatDoorP13
import Derived.Test.YtoimeckpnnkbpaaGreatDoorP00
set_option linter.unusedVariables false
set_option linter.unusedSimpArgs false
set_option linter.unusedSectionVars false
set_option maxRecDepth 100000
namespace Go.Abs.hk
open Go Go.Abs Go.Proofs
noncomputable section
variable (g:Nat->Option Obj)
def aA8:List V:=[abw]
def aA9:V:=.aU [abB,.cp,au 0]
theorem aEV:cu (kb g) 200 (.fn 39 [] []) aA8 []=some (aA9,[],0):=by kernel_rfl
def aBa:List (List V × V):=[(aA8,aA9)]
theorem aEW:jf (kb g) 200 39 aBa:=⟨⟨by kernel_rfl,aEV g⟩,trivial⟩
def Hk:Nat->Option bY:=over (kb g) 39 (je aBa)
end
end Go.Abs.hk
