/- Texts of this claim, joined and written short by a program. -/
import Derived.Test.YtemakagmboeodaaGreatDoorP13
import Derived.Test.YtemakagmboeodaaGreatDoorP00
set_option linter.unusedVariables false
set_option linter.unusedSimpArgs false
set_option linter.unusedSectionVars false
set_option maxRecDepth 100000
namespace Go.Abs.cb
open Go Go.Abs Go.Proofs
noncomputable section
variable (g:Nat->Option Obj)
def Qv:List V:=[rE]
def Qw:V:=.aR [.list 4 [.agg [J 2,J 0,J 0,J 4],.agg [J 1,J 4,J 5,J 6],.agg [J 3,J 6,J 7,J 8],.agg [J 4,J 8,J 8,J 9],.agg [J 2,J 9,J 10,J 18],.agg [J 1,J 18,J 19,J 20],.agg [J 4,J 20,J 20,J 21],.agg [J 1,J 21,J 21,J 22],.agg [J 4,J 22,J 22,J 23],.agg [J 1,J 23,J 24,J 25],.agg [J 4,J 25,J 25,J 26],.agg [J 4,J 26,J 26,J 27],.agg [J 2,J 27,J 28,J 35],.agg [J 1,J 35,J 36,J 37],.agg [J 4,J 37,J 37,J 38],.agg [J 1,J 38,J 38,J 39],.agg [J 4,J 39,J 39,J 40],.agg [J 1,J 40,J 41,J 42],.agg [J 4,J 42,J 42,J 43],.agg [J 2,J 43,J 44,J 46],.agg [J 3,J 46,J 47,J 48],.agg [J 4,J 48,J 48,J 50],.agg [J 3,J 50,J 50,J 51],.agg [J 4,J 51,J 51,J 52],.agg [J 2,J 52,J 53,J 62],.agg [J 1,J 62,J 63,J 64],.agg [J 4,J 64,J 64,J 65],.agg [J 1,J 65,J 65,J 66],.agg [J 4,J 66,J 66,J 67],.agg [J 1,J 67,J 68,J 69],.agg [J 4,J 69,J 69,J 70],.agg [J 4,J 70,J 71,J 72],.agg [J 2,J 72,J 73,J 79],.agg [J 1,J 79,J 80,J 81],.agg [J 4,J 81,J 81,J 82],.agg [J 1,J 82,J 82,J 83],.agg [J 4,J 83,J 83,J 84],.agg [J 4,J 84,J 84,J 85],.agg [J 2,J 85,J 86,J 89],.agg [J 1,J 89,J 90,J 91],.agg [J 4,J 91,J 91,J 92],.agg [J 1,J 92,J 93,J 94],.agg [J 2,J 94,J 95,J 100],.agg [J 1,J 100,J 101,J 102],.agg [J 4,J 102,J 103,J 105],.agg [J 1,J 105,J 106,J 107],.agg [J 4,J 107,J 108,J 109],.agg [J 2,J 109,J 110,J 113],.agg [J 3,J 113,J 114,J 115],.agg [J 2,J 115,J 116,J 118],.agg [J 1,J 118,J 119,J 120],.agg [J 4,J 120,J 120,J 121],.agg [J 1,J 121,J 121,J 122],.agg [J 4,J 122,J 122,J 123],.agg [J 4,J 123,J 123,J 124],.agg [J 4,J 124,J 125,J 126],.agg [J 2,J 126,J 127,J 131],.agg [J 1,J 131,J 132,J 133],.agg [J 4,J 133,J 133,J 134],.agg [J 3,J 134,J 134,J 135],.agg [J 4,J 135,J 135,J 136],.agg [J 4,J 136,J 137,J 138],.agg [J 3,J 138,J 139,J 140],.agg [J 4,J 140,J 141,J 142],.agg [J 1,J 142,J 143,J 144],.agg [J 4,J 144,J 144,J 145],.agg [J 1,J 145,J 145,J 146],.agg [J 4,J 146,J 146,J 147],.agg [J 4,J 147,J 148,J 150],.agg [J 3,J 150,J 151,J 152],.agg [J 4,J 152,J 152,J 153],.agg [J 4,J 153,J 154,J 155],.agg [J 0,J 155,J 155,J 155]],J 0]
theorem abp:aS (Bq g) 200 (.fn 71 [] []) Qv []=some (Qw,[],0):=by kernel_rfl
def Qx:List (List V × V):=[(Qv,Qw)]
theorem abq:iS (Bq g) 200 71 Qx:=⟨⟨by kernel_rfl,abp g⟩,trivial⟩
def pz:Nat->Option bQ:=over (Bq g) 71 (iR Qx)
end
end Go.Abs.cb
