/- Texts of this claim, joined and written short by a program. -/
import Derived.Test.YtgkcikhegodchaaGreatDoorS14
import Derived.Test.YtgkcikhegodchaaGreatDoorS00
set_option linter.unusedVariables false
set_option linter.unusedSimpArgs false
set_option linter.unusedSectionVars false
set_option maxRecDepth 100000
namespace Go.Abs.bs
open Go Go.Abs Go.Proofs
noncomputable section
variable (g:Nat->Option Obj)
def YJ:List V:=[TH]
def YK:V:=.aU [.list 4 [.agg [ak 2,ak 0,ak 0,ak 4],.agg [ak 1,ak 4,ak 5,ak 6],.agg [ak 3,ak 6,ak 7,ak 8],.agg [ak 4,ak 8,ak 8,ak 9],.agg [ak 2,ak 9,ak 10,ak 18],.agg [ak 1,ak 18,ak 19,ak 20],.agg [ak 4,ak 20,ak 20,ak 21],.agg [ak 1,ak 21,ak 21,ak 22],.agg [ak 4,ak 22,ak 22,ak 23],.agg [ak 1,ak 23,ak 24,ak 25],.agg [ak 4,ak 25,ak 25,ak 26],.agg [ak 4,ak 26,ak 26,ak 27],.agg [ak 2,ak 27,ak 28,ak 35],.agg [ak 1,ak 35,ak 36,ak 37],.agg [ak 4,ak 37,ak 37,ak 38],.agg [ak 4,ak 38,ak 38,ak 39],.agg [ak 2,ak 39,ak 40,ak 42],.agg [ak 3,ak 42,ak 43,ak 44],.agg [ak 4,ak 44,ak 44,ak 46],.agg [ak 3,ak 46,ak 46,ak 47],.agg [ak 4,ak 47,ak 47,ak 48],.agg [ak 2,ak 48,ak 49,ak 58],.agg [ak 1,ak 58,ak 59,ak 60],.agg [ak 4,ak 60,ak 60,ak 61],.agg [ak 2,ak 61,ak 62,ak 65],.agg [ak 4,ak 65,ak 65,ak 66],.agg [ak 4,ak 66,ak 66,ak 67],.agg [ak 2,ak 67,ak 68,ak 71],.agg [ak 4,ak 71,ak 71,ak 72],.agg [ak 1,ak 72,ak 72,ak 73],.agg [ak 4,ak 73,ak 73,ak 74],.agg [ak 1,ak 74,ak 75,ak 76],.agg [ak 4,ak 76,ak 76,ak 77],.agg [ak 1,ak 77,ak 78,ak 79],.agg [ak 4,ak 79,ak 79,ak 80],.agg [ak 1,ak 80,ak 80,ak 81],.agg [ak 4,ak 81,ak 81,ak 82],.agg [ak 4,ak 82,ak 83,ak 84],.agg [ak 1,ak 84,ak 85,ak 86],.agg [ak 4,ak 86,ak 86,ak 87],.agg [ak 4,ak 87,ak 87,ak 88],.agg [ak 4,ak 88,ak 89,ak 91],.agg [ak 3,ak 91,ak 92,ak 93],.agg [ak 4,ak 93,ak 93,ak 94],.agg [ak 0,ak 94,ak 94,ak 94]],ak 0]
theorem ak7:bD (Jb g) 200 (.fn 169 [] []) YJ []=some (YK,[],0):=by kernel_rfl
def YL:List (List V × V):=[(YJ,YK)]
theorem ak8:jz (Jb g) 200 169 YL:=⟨⟨by kernel_rfl,ak7 g⟩,trivial⟩
def Jc:Nat->Option bV:=over (Jb g) 169 (jy YL)
end
end Go.Abs.bs
