/- Texts of this claim, joined and written short by a program. -/
import Derived.Test.YteocalfeoefeoaaGreatDoorP14
import Derived.Test.YteocalfeoefeoaaGreatDoorP00
set_option linter.unusedVariables false
set_option linter.unusedSimpArgs false
set_option linter.unusedSectionVars false
set_option maxRecDepth 100000
namespace Go.Abs.mN
open Go Go.Abs Go.Proofs
noncomputable section
variable (g:Nat->Option Obj)
def aax:List V:=[Ro]
def aay:V:=.aU [.list 4 [.agg [au 2,au 0,au 0,au 4],.agg [au 1,au 4,au 5,au 6],.agg [au 3,au 6,au 7,au 8],.agg [au 4,au 8,au 8,au 9],.agg [au 2,au 9,au 10,au 18],.agg [au 1,au 18,au 19,au 20],.agg [au 4,au 20,au 20,au 21],.agg [au 1,au 21,au 21,au 22],.agg [au 4,au 22,au 22,au 23],.agg [au 1,au 23,au 24,au 25],.agg [au 4,au 25,au 25,au 26],.agg [au 4,au 26,au 26,au 27],.agg [au 2,au 27,au 28,au 37],.agg [au 1,au 37,au 38,au 39],.agg [au 4,au 39,au 39,au 40],.agg [au 1,au 40,au 40,au 41],.agg [au 4,au 41,au 41,au 42],.agg [au 1,au 42,au 43,au 44],.agg [au 4,au 44,au 44,au 45],.agg [au 4,au 45,au 46,au 47],.agg [au 2,au 47,au 48,au 55],.agg [au 1,au 55,au 56,au 57],.agg [au 4,au 57,au 58,au 60],.agg [au 3,au 60,au 61,au 62],.agg [au 4,au 62,au 62,au 63],.agg [au 2,au 63,au 64,au 70],.agg [au 1,au 70,au 71,au 72],.agg [au 4,au 72,au 72,au 73],.agg [au 1,au 73,au 73,au 74],.agg [au 4,au 74,au 74,au 75],.agg [au 4,au 75,au 75,au 76],.agg [au 4,au 76,au 77,au 78],.agg [au 0,au 78,au 78,au 78]],au 0]
theorem ap7:cu (Hl g) 200 (.fn 165 [] []) aax []=some (aay,[],0):=by kernel_rfl
def aaz:List (List V × V):=[(aax,aay)]
theorem ap8:jf (Hl g) 200 165 aaz:=⟨⟨by kernel_rfl,ap7 g⟩,trivial⟩
def Hm:Nat->Option bY:=over (Hl g) 165 (je aaz)
end
end Go.Abs.mN
