/- Texts of this claim, joined and written short by a program. -/
import Derived.Test.YtonmjjfciemcoaaGreatDoorP13
import Derived.Test.YtonmjjfciemcoaaGreatDoorP00
set_option linter.unusedVariables false
set_option linter.unusedSimpArgs false
set_option linter.unusedSectionVars false
set_option maxRecDepth 100000
namespace Go.Abs.bz
open Go Go.Abs Go.Proofs
noncomputable section
variable (g:Nat->Option Obj)
def abN:List V:=[FK]
def abO:V:=.aU [.list 4 [.agg [J 2,J 0,J 0,J 4],.agg [J 1,J 4,J 5,J 6],.agg [J 3,J 6,J 7,J 8],.agg [J 4,J 8,J 8,J 9],.agg [J 2,J 9,J 10,J 18],.agg [J 1,J 18,J 19,J 20],.agg [J 4,J 20,J 20,J 21],.agg [J 1,J 21,J 21,J 22],.agg [J 4,J 22,J 22,J 23],.agg [J 1,J 23,J 24,J 25],.agg [J 4,J 25,J 25,J 26],.agg [J 4,J 26,J 26,J 27],.agg [J 2,J 27,J 28,J 37],.agg [J 1,J 37,J 38,J 39],.agg [J 4,J 39,J 39,J 40],.agg [J 2,J 40,J 41,J 46],.agg [J 1,J 46,J 47,J 48],.agg [J 4,J 48,J 48,J 49],.agg [J 4,J 49,J 49,J 50],.agg [J 4,J 50,J 51,J 53],.agg [J 3,J 53,J 54,J 55],.agg [J 4,J 55,J 55,J 56],.agg [J 2,J 56,J 57,J 66],.agg [J 1,J 66,J 67,J 68],.agg [J 4,J 68,J 68,J 69],.agg [J 1,J 69,J 69,J 70],.agg [J 4,J 70,J 70,J 71],.agg [J 1,J 71,J 72,J 73],.agg [J 4,J 73,J 73,J 74],.agg [J 4,J 74,J 75,J 76],.agg [J 2,J 76,J 77,J 83],.agg [J 1,J 83,J 84,J 85],.agg [J 4,J 85,J 85,J 86],.agg [J 1,J 86,J 86,J 87],.agg [J 4,J 87,J 87,J 88],.agg [J 4,J 88,J 88,J 89],.agg [J 4,J 89,J 90,J 91],.agg [J 2,J 91,J 92,J 101],.agg [J 1,J 101,J 102,J 103],.agg [J 4,J 103,J 103,J 104],.agg [J 4,J 104,J 104,J 105],.agg [J 4,J 105,J 106,J 107],.agg [J 2,J 107,J 108,J 112],.agg [J 1,J 112,J 113,J 114],.agg [J 4,J 114,J 114,J 115],.agg [J 3,J 115,J 115,J 116],.agg [J 4,J 116,J 116,J 117],.agg [J 4,J 117,J 118,J 120],.agg [J 3,J 120,J 121,J 122],.agg [J 4,J 122,J 122,J 123],.agg [J 2,J 123,J 124,J 130],.agg [J 1,J 130,J 131,J 132],.agg [J 4,J 132,J 132,J 133],.agg [J 3,J 133,J 133,J 134],.agg [J 4,J 134,J 134,J 135],.agg [J 4,J 135,J 135,J 136],.agg [J 2,J 136,J 137,J 143],.agg [J 1,J 143,J 144,J 145],.agg [J 4,J 145,J 145,J 146],.agg [J 3,J 146,J 146,J 147],.agg [J 4,J 147,J 147,J 148],.agg [J 4,J 148,J 148,J 149],.agg [J 4,J 149,J 150,J 151],.agg [J 0,J 151,J 151,J 151]],J 0]
theorem apZ:bm (Lx g) 200 (.fn 144 [] []) abN []=some (abO,[],0):=by kernel_rfl
def abP:List (List V × V):=[(abN,abO)]
theorem ap0:hC (Lx g) 200 144 abP:=⟨⟨by kernel_rfl,apZ g⟩,trivial⟩
def yH:Nat->Option bU:=over (Lx g) 144 (hB abP)
end
end Go.Abs.bz
