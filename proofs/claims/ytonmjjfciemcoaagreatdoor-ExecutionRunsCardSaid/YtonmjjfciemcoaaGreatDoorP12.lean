/- Texts of this claim, joined and written short by a program. -/
import Derived.Test.YtonmjjfciemcoaaGreatDoorP11
import Derived.Test.YtonmjjfciemcoaaGreatDoorP00
set_option linter.unusedVariables false
set_option linter.unusedSimpArgs false
set_option linter.unusedSectionVars false
set_option maxRecDepth 100000
namespace Go.Abs.hk
open Go Go.Abs Go.Proofs
noncomputable section
variable (g:Nat->Option Obj)
def aBC:List V:=[awa]
def aBD:V:=.aU [.list 4 [.agg [au 2,au 0,au 0,au 4],.agg [au 1,au 4,au 5,au 6],.agg [au 3,au 6,au 7,au 8],.agg [au 4,au 8,au 8,au 9],.agg [au 2,au 9,au 10,au 18],.agg [au 1,au 18,au 19,au 20],.agg [au 4,au 20,au 20,au 21],.agg [au 1,au 21,au 21,au 22],.agg [au 4,au 22,au 22,au 23],.agg [au 1,au 23,au 24,au 25],.agg [au 4,au 25,au 25,au 26],.agg [au 4,au 26,au 26,au 27],.agg [au 2,au 27,au 28,au 37],.agg [au 1,au 37,au 38,au 39],.agg [au 4,au 39,au 39,au 40],.agg [au 2,au 40,au 41,au 46],.agg [au 1,au 46,au 47,au 48],.agg [au 4,au 48,au 48,au 49],.agg [au 4,au 49,au 49,au 50],.agg [au 4,au 50,au 51,au 53],.agg [au 3,au 53,au 54,au 55],.agg [au 4,au 55,au 55,au 56],.agg [au 2,au 56,au 57,au 66],.agg [au 1,au 66,au 67,au 68],.agg [au 4,au 68,au 68,au 69],.agg [au 1,au 69,au 69,au 70],.agg [au 4,au 70,au 70,au 71],.agg [au 1,au 71,au 72,au 73],.agg [au 4,au 73,au 73,au 74],.agg [au 4,au 74,au 75,au 76],.agg [au 2,au 76,au 77,au 83],.agg [au 1,au 83,au 84,au 85],.agg [au 4,au 85,au 85,au 86],.agg [au 1,au 86,au 86,au 87],.agg [au 4,au 87,au 87,au 88],.agg [au 4,au 88,au 88,au 89],.agg [au 4,au 89,au 90,au 91],.agg [au 2,au 91,au 92,au 101],.agg [au 1,au 101,au 102,au 103],.agg [au 4,au 103,au 103,au 104],.agg [au 4,au 104,au 104,au 105],.agg [au 4,au 105,au 106,au 107],.agg [au 2,au 107,au 108,au 112],.agg [au 1,au 112,au 113,au 114],.agg [au 4,au 114,au 114,au 115],.agg [au 3,au 115,au 115,au 116],.agg [au 4,au 116,au 116,au 117],.agg [au 4,au 117,au 118,au 120],.agg [au 3,au 120,au 121,au 122],.agg [au 4,au 122,au 122,au 123],.agg [au 2,au 123,au 124,au 130],.agg [au 1,au 130,au 131,au 132],.agg [au 4,au 132,au 132,au 133],.agg [au 3,au 133,au 133,au 134],.agg [au 4,au 134,au 134,au 135],.agg [au 4,au 135,au 135,au 136],.agg [au 2,au 136,au 137,au 143],.agg [au 1,au 143,au 144,au 145],.agg [au 4,au 145,au 145,au 146],.agg [au 3,au 146,au 146,au 147],.agg [au 4,au 147,au 147,au 148],.agg [au 4,au 148,au 148,au 149],.agg [au 4,au 149,au 150,au 151],.agg [au 0,au 151,au 151,au 151]],au 0]
theorem aGC:cu (Hn g) 200 (.fn 144 [] []) aBC []=some (aBD,[],0):=by kernel_rfl
def aBE:List (List V × V):=[(aBC,aBD)]
theorem aGD:jf (Hn g) 200 144 aBE:=⟨⟨by kernel_rfl,aGC g⟩,trivial⟩
def Ho:Nat->Option bY:=over (Hn g) 144 (je aBE)
end
end Go.Abs.hk
