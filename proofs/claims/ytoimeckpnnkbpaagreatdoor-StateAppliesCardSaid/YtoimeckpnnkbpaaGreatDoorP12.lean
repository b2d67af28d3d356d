/- Texts of this claim, joined and written short by a program. -/
import Derived.Test.YtoimeckpnnkbpaaGreatDoorP11
import Derived.Test.YtoimeckpnnkbpaaGreatDoorP00
set_option linter.unusedVariables false
set_option linter.unusedSimpArgs false
set_option linter.unusedSectionVars false
set_option maxRecDepth 100000
namespace Go.Abs.hk
open Go Go.Abs Go.Proofs
noncomputable section
variable (g:Nat->Option Obj)
def az1:List V:=[abw]
def az5:V:=.bool true
theorem aEl:cu (Hh g) 200 (.fn 73 [] []) az1 []=some (az5,[],0):=by kernel_rfl
def az6:List (List V × V):=[(az1,az5)]
theorem aEm:jf (Hh g) 200 73 az6:=⟨⟨by kernel_rfl,aEl g⟩,trivial⟩
def Hi:Nat->Option bY:=over (Hh g) 73 (je az6)
end
end Go.Abs.hk
set_option maxRecDepth 100000
namespace Go.Abs.hk
open Go Go.Abs Go.Proofs
noncomputable section
variable (g:Nat->Option Obj)
def az7:List V:=[abw]
def az8:V:=.aU [.agg [.list 4 [.agg [au 0,.str [115],au 1,au (-1)],.agg [au 1,.str [114],au 3,au (-1)],.agg [au 4,.str [97],au 5,au 3],.agg [au 1,.str [99],au 7,au (-1)],.agg [au 2,.str [105],au 12,au (-1)],.agg [au 5,.str [120],au 19,au 12]],.list 1 [au (-1),au 0,au (-1),au 1,au (-1),au 2,au 0,au 3,au (-1),au (-1),au (-1),au (-1),au 4,au (-1),au (-1),au (-1),au (-1),au (-1),au (-1),au 5,au 0,au 1,au 5,au (-1),au (-1),au (-1),au 3,au (-1),au (-1)]],.cp,au 0]
theorem aEn:cu (Hi g) 200 (.fn 77 [] []) az7 []=some (az8,[],0):=by kernel_rfl
def az9:List (List V × V):=[(az7,az8)]
theorem aEo:jf (Hi g) 200 77 az9:=⟨⟨by kernel_rfl,aEn g⟩,trivial⟩
def Dw:Nat->Option bY:=over (Hi g) 77 (je az9)
end
end Go.Abs.hk
