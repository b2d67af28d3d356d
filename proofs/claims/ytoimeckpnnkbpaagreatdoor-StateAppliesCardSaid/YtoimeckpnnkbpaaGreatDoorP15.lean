/- Texts of this claim, joined and written short by a program. -/
import Derived.Test.YtoimeckpnnkbpaaGreatDoorP14
import Derived.Test.YtoimeckpnnkbpaaGreatDoorP00
set_option linter.unusedVariables false
set_option linter.unusedSimpArgs false
set_option linter.unusedSectionVars false
set_option maxRecDepth 100000
namespace Go.Abs.hk
open Go Go.Abs Go.Proofs
noncomputable section
variable (g:Nat->Option Obj)
def aBb:List V:=[abC]
def aBc:V:=.aU [.list 4 [.agg [au 2,au 0,au 0,au 4],.agg [au 1,au 4,au 5,au 6],.agg [au 3,au 6,au 7,au 8],.agg [au 4,au 8,au 8,au 9],.agg [au 2,au 9,au 10,au 18],.agg [au 1,au 18,au 19,au 20],.agg [au 4,au 20,au 20,au 21],.agg [au 1,au 21,au 21,au 22],.agg [au 4,au 22,au 22,au 23],.agg [au 1,au 23,au 24,au 25],.agg [au 4,au 25,au 25,au 26],.agg [au 4,au 26,au 26,au 27],.agg [au 2,au 27,au 28,au 35],.agg [au 1,au 35,au 36,au 37],.agg [au 4,au 37,au 37,au 38],.agg [au 4,au 38,au 38,au 39],.agg [au 2,au 39,au 40,au 42],.agg [au 3,au 42,au 43,au 44],.agg [au 4,au 44,au 44,au 46],.agg [au 3,au 46,au 46,au 47],.agg [au 4,au 47,au 47,au 48],.agg [au 2,au 48,au 49,au 58],.agg [au 1,au 58,au 59,au 60],.agg [au 4,au 60,au 60,au 61],.agg [au 2,au 61,au 62,au 65],.agg [au 4,au 65,au 65,au 66],.agg [au 4,au 66,au 66,au 67],.agg [au 2,au 67,au 68,au 71],.agg [au 4,au 71,au 71,au 72],.agg [au 1,au 72,au 72,au 73],.agg [au 4,au 73,au 73,au 74],.agg [au 1,au 74,au 75,au 76],.agg [au 4,au 76,au 76,au 77],.agg [au 1,au 77,au 78,au 79],.agg [au 4,au 79,au 79,au 80],.agg [au 1,au 80,au 80,au 81],.agg [au 4,au 81,au 81,au 82],.agg [au 4,au 82,au 83,au 84],.agg [au 1,au 84,au 85,au 86],.agg [au 4,au 86,au 86,au 87],.agg [au 4,au 87,au 87,au 88],.agg [au 4,au 88,au 89,au 91],.agg [au 3,au 91,au 92,au 93],.agg [au 4,au 93,au 93,au 94],.agg [au 0,au 94,au 94,au 94]],au 0]
theorem aEX:cu (Hk g) 200 (.fn 133 [] []) aBb []=some (aBc,[],0):=by kernel_rfl
def aBd:List (List V × V):=[(aBb,aBc)]
theorem aEY:jf (Hk g) 200 133 aBd:=⟨⟨by kernel_rfl,aEX g⟩,trivial⟩
def Hl:Nat->Option bY:=over (Hk g) 133 (je aBd)
end
end Go.Abs.hk
